/- The relation between the abstract machine's heap and the model's memory, and what keeps it One operation of the abstract machine stands for one operation of the model: first part Rows of the heap that -/
import Derived.WalkKit
import Derived.Laws.CopyRow
import Derived.Deep.AppendSrc
import Derived.Laws.MakeOwn
import Derived.Laws.BytesArg
import Derived.Laws.Tables
import Derived.Laws.StructEq
import Derived.Test.YtkollgjffkdliaaGreatDoorK01
open List renaming all_eq_true → y9,append_assoc → u4,getElem?_append_left → g9,getElem?_append_right → b0,getElem?_drop → d8,getElem?_eq_getElem → v9,getElem?_eq_some_iff → x9,getElem?_take_of_lt → l8,length_take → u7,mem_of_mem_take → d6
open Nat renaming add_mul → k9,add_zero → b4,le_trans → j1,mul_le_mul_right → w8
open Option renaming map_eq_some_iff → x5
set_option linter.all false
namespace Go.Proofs.YtkollgjffkdliaaGreatDoor.Am
open Go
set_option maxRecDepth 100000
def own (G:Ghost):AObj→Option Nat
 | .dead=>none
 | .blk g .. =>(G g).map (·.blk)
 | .tip g _=>(G g).bind fun i=>if i.room then some i.blk else none
 | .map g _=>(G g).map (·.blk)
def ElemsR (G:Ghost) (I:Imm) (es:List AV) (cs:Array Value) (e:Nat):Prop:=
 ∀ k x,es[k]? =some x→x.cells.length=e∧∀ j c,x.cells[j]? =some c→∃ v,cs[k * e + j]? =some v∧VR G I c v
def MapR (G:Ghost) (I:Imm):List (AV×AV)→List MapEntry→Prop
 | [],es=>es=[]
 | x::xs,es=>∃ e rest,es=e::rest∧VR G I x.1 e.key∧VR G I x.2 e.val∧MapR G I xs rest
def ObjR (G:Ghost) (I:Imm) (w:World) (slot:Nat):AObj→Prop
 | .dead=>True
 | .blk g es row grow fz=>∃ i cs t,G g=some i∧i.slot=slot∧w.heap[i.blk]? =some (.cells cs t (0,0))∧cs.size=i.cap * i.esz∧0 < i.esz∧
  es.length≤i.cap∧(grow=false→es.length=i.cap)∧(fz≤es.length∧(row=false→fz=0))∧ElemsR G I es cs i.esz∧∀ o v,I i.blk o=some v→o < fz * i.esz
 | .tip g e=>∃ i,G g=some i∧i.slot=slot∧i.esz=e∧(i.room=true→
  ∃ cs t,w.heap[i.blk]? =some (.cells cs t (0,0))∧i.capE≤cs.size∧∀ o v,I i.blk o=some v→o < i.endp)
 | .map g es=>∃ i ents clk,G g=some i∧i.slot=slot∧w.heap[i.blk]? =some (.map ents clk)∧MapR G I es ents.toList
structure Rel (G:Ghost) (I:Imm) (h:List AObj) (w:World):Prop where
 imm:∀ b o v,I b o=some v→w.cell? ⟨b,o,none⟩=some v
 obj:∀ (i:Nat) o,h[i]? =some o→ObjR G I w i o
 inj:∀ (i j:Nat) oi oj b,h[i]? =some oi→h[j]? =some oj→own G oi=some b→own G oj=some b→i=j
theorem MapR.mono {G G':Ghost} {I I':Imm} (hG:GLe G G') (hI:ILe I I'):∀ {xs:List (AV×AV)} {es:List MapEntry},MapR G I xs es→MapR G' I' xs es
 | [],_,h=>h
 | _::_,_,h=>by
   obtain⟨e,rest,rfl,h1,h2,h3⟩:=h
   exact⟨e,rest,rfl,VR.mono hG hI h1,VR.mono hG hI h2,MapR.mono hG hI h3⟩
theorem ElemsR.mono {G G':Ghost} {I I':Imm} (hG:GLe G G') (hI:ILe I I') {es:List AV} {cs:Array Value} {e:Nat} (h:ElemsR G I es cs e):ElemsR G' I' es cs e:=
 fun k x hx=>⟨(h k x hx).1,fun j c hc=>let ⟨v,hv,hr⟩:=(h k x hx).2 j c hc;⟨v,hv,VR.mono hG hI hr⟩⟩
theorem ObjR.ext {G G':Ghost} {I:Imm} {w:World} {s:Nat} {o:AObj} (hG:GLe G G') (h:ObjR G I w s o):ObjR G' I w s o:=by
 cases o with
 | dead=>trivial
 | blk g es row grow fz=>
   obtain⟨i,cs,t,h1,h2,h3,h4,h5,h6,h7,h8,h9,h10⟩:=h
   exact⟨i,cs,t,hG _ _ h1,h2,h3,h4,h5,h6,h7,h8,h9.mono hG (ILe.refl _),h10⟩
 | tip g e=>
   obtain⟨i,h1,h2⟩:=h
   exact⟨i,hG _ _ h1,h2⟩
 | map g es=>
   obtain⟨i,ents,clk,h1,h2,h3,h4⟩:=h
   exact⟨i,ents,clk,hG _ _ h1,h2,h3,h4.mono hG (ILe.refl _)⟩
theorem q0h {G G':Ghost} {I:Imm} {w:World} {s:Nat} {o:AObj} (hG:GLe G G') (h:ObjR G I w s o):own G' o=own G o:=by
 cases o with
 | dead=>rfl
 | blk g es row grow fz=>
   obtain⟨i,cs,t,h1,_⟩:=h
   simp[own,h1,hG _ _ h1]
 | tip g e=>
   obtain⟨i,h1,_⟩:=h
   simp[own,h1,hG _ _ h1]
 | map g es=>
   obtain⟨i,ents,clk,h1,_⟩:=h
   simp[own,h1,hG _ _ h1]
theorem Rel.ext {G G':Ghost} {I:Imm} {h:List AObj} {w:World} (hG:GLe G G') (r:Rel G I h w):Rel G' I h w:=
 ⟨r.imm,fun i o ho=>(r.obj i o ho).ext hG,fun i j oi oj b hi hj h1 h2=>
  r.inj i j oi oj b hi hj (by rwa [q0h hG (r.obj i oi hi)] at h1) (by rwa [q0h hG (r.obj j oj hj)] at h2)⟩
theorem q1h {G:Ghost} {I:Imm} {w:World} {s b:Nat} {o:AObj} (h:ObjR G I w s o) (ho:own G o=some b):∃ x,w.heap[b]? =some x:=by
 cases o with
 | dead=>simp[own] at ho
 | blk g es row grow fz=>
   obtain⟨i,cs,t,h1,_,h3,_⟩:=h
   simp[own,h1] at ho
   subst ho
   exact⟨_,h3⟩
 | tip g e=>
   obtain⟨i,h1,_,_,h3⟩:=h
   simp[own,h1] at ho
   obtain⟨hr,rfl⟩:=ho
   obtain⟨cs,t,h4,_⟩:=h3 hr
   exact⟨_,h4⟩
 | map g es=>
   obtain⟨i,ents,clk,h1,_,h3,_⟩:=h
   simp[own,h1] at ho
   subst ho
   exact⟨_,h3⟩
theorem z9q {G:Ghost} {I:Imm} {w:World} {s b:Nat} {o:AObj} (h:ObjR G I w s o) (ho:own G o=some b):b < w.heap.size:=by
 obtain⟨x,hx⟩:=q1h h ho
 exact (Array.getElem?_eq_some_iff.1 hx).1
theorem ObjR.world {G:Ghost} {I:Imm} {w w':World} {s:Nat} {o:AObj} (h:ObjR G I w s o) (hk:∀ b,own G o=some b→w'.heap[b]? =w.heap[b]?):ObjR G I w' s o:=by
 cases o with
 | dead=>trivial
 | blk g es row grow fz=>
   obtain⟨i,cs,t,h1,h2,h3,h4⟩:=h
   exact⟨i,cs,t,h1,h2,by rw[hk _ (by simp[own,h1])];exact h3,h4⟩
 | tip g e=>
   obtain⟨i,h1,h2,h2',h3⟩:=h
   refine⟨i,h1,h2,h2',fun hr=> ?_⟩
   obtain⟨cs,t,h4,h5⟩:=h3 hr
   exact⟨cs,t,by rw[hk _ (by simp[own,h1,hr])];exact h4,h5⟩
 | map g es=>
   obtain⟨i,ents,clk,h1,h2,h3,h4⟩:=h
   exact⟨i,ents,clk,h1,h2,by rw[hk _ (by simp[own,h1])];exact h3,h4⟩
theorem z4x {w w':World} {a:Addr} {v:Value} (h:w.cell? a=some v) (hk:∀ x,w.heap[a.block]? =some x→w'.heap[a.block]? =some x):w'.cell? a=some v:=by
 unfold World.cell? at h⊢
 cases hb:w.heap[a.block]? with
 | none=>simp[hb] at h
 | some x=>rw[hk x hb];rw[hb] at h;exact h
theorem Rel.world {G:Ghost} {I:Imm} {h:List AObj} {w w':World} (r:Rel G I h w) (hk:∀ (b:Nat) (x:Obj),w.heap[b]? =some x→w'.heap[b]? =some x):Rel G I h w':=
 ⟨fun b o v hv=>z4x (r.imm b o v hv) (hk _),fun i o ho=>(r.obj i o ho).world fun b hb=>by
  obtain⟨x,hx⟩:=q1h (r.obj i o ho) hb
  rw[hx,hk _ _ hx],r.inj⟩
theorem getElem?_set_cases {α:Type} {l:List α} {i j:Nat} {a b:α} (h:(l.set i a)[j]? =some b):(j=i∧b=a)∨(j≠i∧l[j]? =some b):=by
 rw[List.getElem?_set] at h
 by_cases hij:i=j
 ·subst hij
  by_cases hl:i < l.length
  ·simp[hl] at h
   exact .inl ⟨rfl,h.symm⟩
  ·simp[hl] at h
 ·simp[hij] at h
  exact .inr ⟨fun e=>hij e.symm,h⟩
theorem Rel.set {G:Ghost} {I:Imm} {h:List AObj} {w:World} (r:Rel G I h w) (s:Nat) (o:AObj) (ho:ObjR G I w s o)
  (hd:∀ (j:Nat) oj b,j≠s→h[j]? =some oj→own G oj=some b→own G o=some b→False):Rel G I (h.set s o) w:=by
 refine⟨r.imm,fun i x hx=> ?_,fun i j oi oj b hi hj h1 h2=> ?_⟩
 ·rcases getElem?_set_cases hx with ⟨rfl,rfl⟩ | ⟨_,hx⟩
  ·exact ho
  ·exact r.obj i x hx
 ·rcases getElem?_set_cases hi with ⟨hi1,hi2⟩ | ⟨hi1,hi2⟩ <;> rcases getElem?_set_cases hj with ⟨hj1,hj2⟩ | ⟨hj1,hj2⟩
  ·rw[hi1,hj1]
  ·subst hi2
   exact (hd j oj b hj1 hj2 h2 h1).elim
  ·subst hj2
   exact (hd i oi b hi1 hi2 h1 h2).elim
  ·exact r.inj i j oi oj b hi2 hj2 h1 h2
theorem Rel.kill {G:Ghost} {I:Imm} {h:List AObj} {w:World} (r:Rel G I h w) (s:Nat):Rel G I (h.set s .dead) w:=
 r.set s .dead trivial (fun _ _ _ _ _ _ h=>by simp[own] at h)
structure Fr (G:Ghost) (h:List AObj) (w w':World):Prop where
 os:w'.os=w.os
 tape:w'.tape=w.tape
 output:w'.output=w.output
 size:w.heap.size≤w'.heap.size
 kept:∀ b,b < w.heap.size→(∀ (i:Nat) o,h[i]? =some o→own G o≠some b)→w'.heap[b]? =w.heap[b]?
theorem Fr.refl (G:Ghost) (h:List AObj) (w:World):Fr G h w w:=⟨rfl,rfl,rfl,Nat.le_refl _,fun _ _ _=>rfl⟩
theorem Fr.drew {G:Ghost} {h:List AObj} {w w':World} (f:Fr G h w w'):Fr G h w w'.drew:=⟨f.os,f.tape,f.output,f.size,f.kept⟩
def OwnLe (G:Ghost) (h:List AObj) (w:World) (G':Ghost) (h':List AObj):Prop:=
 ∀ (i:Nat) o b,h'[i]? =some o→own G' o=some b→(∃ (j:Nat) (x:AObj),h[j]? =some x∧own G x=some b)∨w.heap.size≤b
theorem Fr.trans {G G':Ghost} {h h':List AObj} {w w' w'':World} (f:Fr G h w w') (ho:OwnLe G h w G' h') (f':Fr G' h' w' w''):Fr G h w w'':=
 ⟨f'.os.trans f.os,f'.tape.trans f.tape,f'.output.trans f.output,j1 f.size f'.size,fun b hb hn=>by
  rw[f'.kept b (Nat.lt_of_lt_of_le hb f.size) (fun i o hi hw=> ?_),f.kept b hb hn]
  rcases ho i o b hi hw with ⟨j,x,hj,hx⟩ | hge
  ·exact hn j x hj hx
  ·omega⟩
theorem OwnLe.refl (G:Ghost) (h:List AObj) (w:World):OwnLe G h w G h:=fun i o _ hi hb=> .inl ⟨i,o,hi,hb⟩
theorem OwnLe.trans {G G' G'':Ghost} {h h' h'':List AObj} {w w':World} (a:OwnLe G h w G' h') (hs:w.heap.size≤w'.heap.size) (b:OwnLe G' h' w' G'' h''):OwnLe G h w G'' h'':=
 fun i o k hi hk=>by
  rcases b i o k hi hk with ⟨j,x,hj,hx⟩ | hge
  ·exact a j x k hj hx
  ·exact .inr (j1 hs hge)
def IFr (G:Ghost) (h:List AObj) (w:World) (I I':Imm):Prop:=
 ∀ b,b < w.heap.size→(∀ (i:Nat) o,h[i]? =some o→own G o≠some b)→∀ o v,I' b o=some v→I b o=some v
theorem IFr.refl {G:Ghost} {h:List AObj} {w:World} {I:Imm}:IFr G h w I I:=fun _ _ _ _ _ hv=>hv
theorem IFr.trans {G G':Ghost} {h h':List AObj} {w w':World} {I I' I'':Imm} (a:IFr G h w I I') (ho:OwnLe G h w G' h') (hs:w.heap.size≤w'.heap.size) (b:IFr G' h' w' I' I''):IFr G h w I I'':=
 fun k hk hn o v hv=>a k hk hn o v (b k (Nat.lt_of_lt_of_le hk hs) (fun i x hi hx=>by
  rcases ho i x k hi hx with ⟨j,y,hj,hy⟩ | hge
  ·exact hn j y hj hy
  ·omega) o v hv)
section
def Step (G:Ghost) (I:Imm) (h:List AObj) (w:World) (gen slot:Nat) (r:Result Next) (v:AV) (h':List AObj):Prop:=
 ∃ nx cv w' G' I',r= .ok nx w'∧(nx= .value cv∨(nx= .skip∧cv=undef))∧VR G' I' v cv∧Rel G' I' h' w'∧GLe G G'∧ILe I I'∧
   (∀ g,g≠gen→G' g=G g)∧(∀ i,G' gen=some i→i.slot=slot)∧OwnLe G h w G' h'∧Fr G h w w'∧IFr G h w I I'
section
variable {P:Program} {G:Ghost} {I:Imm} {h:List AObj} {w:World} {gen slot:Nat}
theorem Step.pure {r:Result Next} {v:AV} {cv:Value} (hg:G gen=none) (rel:Rel G I h w) (hr:r= .ok (.value cv) w) (hv:VR G I v cv):Step G I h w gen slot r v h:=
 ⟨_,cv,w,G,I,hr, .inl rfl,hv,rel,GLe.refl _,ILe.refl _,fun _ _=>rfl,fun i hi=>by simp[hg] at hi,OwnLe.refl _ _ _,Fr.refl _ _ _,IFr.refl⟩
theorem Step.quiet {r:Result Next} {v:AV} {cv:Value} {w':World} {I':Imm} (hg:G gen=none) (rel:Rel G I' h w') (hI:ILe I I') (hr:r= .ok (.value cv) w') (hv:VR G I' v cv) (hf:Fr G h w w') (hi:IFr G h w I I'):Step G I h w gen slot r v h:=
 ⟨_,cv,w',G,I',hr, .inl rfl,hv,rel,GLe.refl _,hI,fun _ _=>rfl,fun i hi=>by simp[hg] at hi,OwnLe.refl _ _ _,hf,hi⟩
theorem z7a (w:World) (o:Obj):(w.alloc o).heap[w.heap.size]? =some o:=by
 show (w.heap.push o)[w.heap.size]? =some o
 simp
theorem q8g (w:World) (o:Obj) {b:Nat} (hb:b < w.heap.size):(w.alloc o).heap[b]? =w.heap[b]? :=by
 show (w.heap.push o)[b]? =w.heap[b]?
 simp[Array.getElem?_push,Nat.ne_of_lt hb]
theorem z6c (w:World) (o:Obj):(w.alloc o).heap.size=w.heap.size + 1:=by
 show (w.heap.push o).size=w.heap.size + 1
 simp
theorem z2r (w:World) (o:Obj) {b:Nat} {x:Obj} (hb:w.heap[b]? =some x):(w.alloc o).heap[b]? =some x:=by
 rw[q8g w o (Array.getElem?_eq_some_iff.1 hb).1,hb]
theorem Fr.alloc {w':World} (f:Fr G h w w') (o:Obj):Fr G h w (w'.alloc o):=
 ⟨f.os,f.tape,f.output,by have:=f.size;rw[z6c];omega,fun b hb hn=>by
  rw[q8g w' o (Nat.lt_of_lt_of_le hb f.size)]
  exact f.kept b hb hn⟩
def Ghost.put (G:Ghost) (g:Nat) (i:GInfo):Ghost:=fun k=>if k=g then some i else G k
theorem Ghost.put_le {G:Ghost} {g:Nat} (i:GInfo) (hg:G g=none):GLe G (G.put g i):=fun k j hk=>by
 unfold Ghost.put
 split
 ·rename_i e;subst e;simp[hg] at hk
 ·exact hk
@[simp] theorem Ghost.put_same {G:Ghost} {g:Nat} {i:GInfo}:G.put g i g=some i:=by simp[Ghost.put]
theorem Ghost.put_other {G:Ghost} {g k:Nat} {i:GInfo} (hk:k≠g):G.put g i k=G k:=by simp[Ghost.put,hk]
theorem Rel.new {G':Ghost} {w':World} {o:AObj} (r:Rel G I h w) (hG:GLe G G') (hk:∀ (b:Nat) (x:Obj),w.heap[b]? =some x→w'.heap[b]? =some x)
  (ho:ObjR G' I w' slot o) (hb:∀ b,own G' o=some b→w.heap.size≤b):Rel G' I (h.set slot o) w':=
 ((r.world hk).ext hG).set slot o ho fun j oj b _ hj h1 h2=>by
   rw[q0h hG ((r.world hk).obj j oj hj)] at h1
   have:=z9q (r.obj j oj hj) h1
   have:=hb b h2
   omega
theorem OwnLe.new {G':Ghost} {o:AObj} (r:Rel G I h w) (hG:GLe G G') (hb:∀ b,own G' o=some b→w.heap.size≤b):OwnLe G h w G' (h.set slot o):=
 fun i x b hi hx=>by
  rcases getElem?_set_cases hi with ⟨_,rfl⟩ | ⟨_,hi⟩
  ·exact .inr (hb b hx)
  ·rw[q0h hG (r.obj i x hi)] at hx
   exact .inl ⟨i,x,hi,hx⟩
theorem z9r {x:AV} {cv:Value} (hd:x.def? =true) (hv:VR G I x cv):x.cells.length=cv.cells.size∧∀ (j:Nat) c,x.cells[j]? =some c→∃ v,cv.cells[j]? =some v∧VR G I c v:=by
 by_cases ha:∃ cs,x= .agg cs
 ·obtain⟨cs,rfl⟩:=ha
  simp only[VR] at hv
  obtain⟨vs,rfl,hv⟩:=hv
  obtain⟨h1,h2⟩:=z9j.1 hv
  refine⟨by simpa [AV.cells,Value.cells] using h1,fun j c hc=> ?_⟩
  simp only[AV.cells] at hc
  have hj:j < vs.toList.length:=by
   rw[←h1]
   exact (x9.1 hc).1
  refine⟨vs.toList[j], ?_,h2 j c _ hc (v9 hj)⟩
  simp only[Value.cells]
  rw[←Array.getElem?_toList]
  exact v9 hj
 ·have hn:∀ cs,x≠ .agg cs:=fun cs e=>ha ⟨cs,e⟩
  have hc:cv.cells= #[cv]:=by
   cases x <;> simp only[VR] at hv <;> first
    | exact absurd rfl (hn _)
    | (simp[AV.def?] at hd;done)
    | (subst hv;rfl)
    | (obtain⟨rfl,_⟩:=hv;rfl)
    | (obtain⟨_,_,_,rfl,_⟩:=hv;rfl)
    | (obtain⟨_,_,_,_,_,rfl,_⟩:=hv;rfl)
    | (obtain⟨_,_,_,rfl⟩:=hv;rfl)
    | (obtain⟨_,_,rfl,_⟩:=hv;rfl)
    | (obtain⟨_,rfl,_⟩:=hv;rfl)
  rw[z7b hn,hc]
  refine⟨rfl,fun j c hj=> ?_⟩
  cases j with
  | zero=>simp at hj;subst hj;exact⟨cv,rfl,hv⟩
  | succ j=>simp at hj
theorem j2o {r:Result Next} {x:AV} {cv:Value} {t:TypeId} (hg:G gen=none) (rel:Rel G I h w) (hd:x.def? =true) (hne:x.cells≠[]) (hv:VR G I x cv)
  (hr:r= .ok (.value (.pointer (some ⟨w.heap.size,0,none⟩))) (w.alloc (.cells cv.cells t))):
  Step G I h w gen slot r (.ptr slot gen 0 0) (h.set slot (.blk gen [x] false false 0)):=by
 obtain⟨hl,hc⟩:=z9r hd hv
 have hG:=Ghost.put_le (G:=G) (g:=gen) ⟨slot,w.heap.size,cv.cells.size,1,0,0,false⟩ hg
 have hpos:0 < cv.cells.size:=by
  rw[←hl]
  exact List.length_pos_iff.2 hne
 have hob:∀ b,own (G.put gen ⟨slot,w.heap.size,cv.cells.size,1,0,0,false⟩) (.blk gen [x] false false 0)=some b→w.heap.size≤b:=by
  intro b hb
  simp[own] at hb
  omega
 refine⟨_,_,_,_,I,hr, .inl rfl, ?_,rel.new hG (fun b y hb=>z2r w _ hb) ?_ hob,hG,ILe.refl _,fun g hg'=>Ghost.put_other hg',fun i hi=> ?_,OwnLe.new rel hG hob,(Fr.refl _ _ _).alloc _,IFr.refl⟩
 ·simp only[VR]
  exact⟨_,Ghost.put_same,rfl,by simp⟩
 ·refine⟨_,cv.cells,t,Ghost.put_same,rfl,z7a w _,by simp,hpos,by simp,fun _=>by simp,⟨by simp,fun _=>rfl⟩, ?_,fun o v ho=> ?_⟩
  ·intro k y hk
   cases k with
   | zero=>
     simp at hk
     subst hk
     refine⟨hl,fun j c hj=> ?_⟩
     obtain⟨v,hv1,hv2⟩:=hc j c hj
     exact⟨v,by simpa using hv1,VR.mono hG (ILe.refl _) hv2⟩
   | succ k=>simp at hk
  ·have:=rel.imm _ _ _ ho
   have:=World.block_lt_of_cell? w _ this
   simp at this
 ·simp at hi
  subst hi
  rfl
def j5w:TypeDesc→Bool
 | .struct _ | .array _ _=>true
 | _=>false
theorem z9s {t:TypeId} {d:TypeDesc} (hu:P.underlying t=some d):(isAgg t).run P w= .ok (j5w d) w:=by
 unfold isAgg
 simp only[Sem.run_bind,run_underlying hu,Result.andThen]
 cases d <;> rfl
def v4m (G:Ghost) (I:Imm) (w:World) (b o:Nat) (cells:List AV):Prop:=
 ∀ (j:Nat) c,cells[j]? =some c→∃ cv,w.cell? ⟨b,o + j,none⟩=some cv∧VR G I c cv
theorem q0i {b o off:Nat} {cells:List AV} {t:TypeId} {sz:Option Nat} {v:AV} (hh:v4m G I w b o cells) (hs:z7o P t=some sz) (hr:z1w cells off sz=some v):
  ∃ cv,(loadVar t ⟨b,o + off,none⟩).run P w= .ok cv w∧VR G I v cv:=by
 cases hu:P.underlying t with
 | none=>simp[z7o,hu] at hs
 | some d=>
   have hagg:=z9s (w:=w) hu
   by_cases ha:j5w d=true
   ·obtain⟨n,hn,rfl⟩:∃ n,sizeP P t=some n∧sz=some n:=by
     unfold z7o at hs
     rw[hu] at hs
     cases d <;> simp[j5w] at ha <;> (simp at hs;obtain⟨n,h1,h2⟩:=hs;exact⟨n,h1,h2.symm⟩)
    simp only[z1w] at hr
    split at hr
    ·rename_i hle
     simp only[Option.some.injEq] at hr
     subst hr
     have hl:=run_loadCells (P:=P) w ⟨b,o + off,none⟩ n (fun j=>(w.cell? ⟨b,o + off + j,none⟩).getD undef) (fun j hj=>by
      rw[Addr.add_lit]
      obtain⟨cv,hc,_⟩:=hh (off + j) (cells[off + j]'(by omega)) (v9 (by omega))
      rw[show o + off + j=o + (off + j) by omega,hc]
      rfl)
     refine⟨.agg ((List.range n).map fun j=>(w.cell? ⟨b,o + off + j,none⟩).getD undef).toArray, ?_, ?_⟩
     ·unfold sizeP at hn
      cases hi:P.info? t with
      | none=>simp[hi] at hn
      | some i=>
        simp[hi] at hn
        simp[loadVar,hagg,ha,sizeOf,typeInfo,hi,hn,hl]
     ·simp only[VR]
      refine⟨_,rfl,z9j.2 ⟨by simp;omega,fun j c u hj hu=> ?_⟩⟩
      simp only[List.getElem?_map] at hu
      have hjn:j < n:=by
       rcases Nat.lt_or_ge j n with hlt | hge
       ·exact hlt
       ·rw[List.getElem?_eq_none (by simpa using hge)] at hu
        simp at hu
      simp[hjn] at hu
      rw[l8 hjn,d8] at hj
      obtain⟨cv,hc,hv⟩:=hh (off + j) c hj
      rw[show o + (off + j)=o + off + j by omega] at hc
      rw[hc] at hu
      simp at hu
      subst hu
      exact hv
    ·simp at hr
   ·have hz:sz=none:=by
     unfold z7o at hs
     rw[hu] at hs
     cases d <;> first | (simp[j5w] at ha;done) | (simp at hs;exact hs.symm)
    subst hz
    simp only[z1w] at hr
    obtain⟨cv,hc,hv⟩:=hh off v hr
    have ha':j5w d=false:=by simpa using ha
    exact⟨cv,by simp[loadVar,hagg,ha',hc],hv⟩
theorem z8z {s g:Nat} {es:List AV} {row grow:Bool} {fz:Nat} (hb:z2f h s g=some (es,row,grow,fz)):h[s]? =some (.blk g es row grow fz):=by
 unfold z2f at hb
 split at hb
 ·rename_i heq
  split at hb
  ·rename_i e
   subst e
   simp at hb
   obtain⟨rfl,rfl,rfl,rfl⟩:=hb
   exact heq
  ·simp at hb
 ·simp at hb
theorem x3y {s g:Nat} {es:List (AV×AV)} (hb:z5d h s g=some es):h[s]? =some (.map g es):=by
 unfold z5d at hb
 split at hb
 ·rename_i heq
  split at hb
  ·rename_i e
   subst e
   simp at hb
   subst hb
   exact heq
  ·simp at hb
 ·simp at hb
theorem x1y {i:GInfo} {cs:Array Value} {t:TypeId} {es:List AV} {e:AV} {k:Nat} (hb:w.heap[i.blk]? =some (.cells cs t (0,0))) (hE:ElemsR G I es cs i.esz) (he:es[k]? =some e):v4m G I w i.blk (k * i.esz) e.cells:=fun j c hj=>by
 obtain⟨v,hv,hr⟩:=(hE k e he).2 j c hj
 exact⟨v,by simp[World.cell?,hb,hv],hr⟩
theorem j8k {cells:List AV} {b o:Nat} (rel:Rel G I h w) (hc:CellsI G I cells b o):v4m G I w b o cells:=fun j c hj=>by
 obtain⟨v,hv,hr⟩:=z6x.1 hc j c hj
 exact⟨v,rel.imm _ _ _ hv,hr⟩
theorem k4o {s g k o:Nat} {pa:Value} {t:TypeId} {sz:Option Nat} {es:List AV} {row grow:Bool} {fz:Nat} {e v:AV} (rel:Rel G I h w) (hp:VR G I (.ptr s g k o) pa) (hs:z7o P t=some sz)
  (hb:z2f h s g=some (es,row,grow,fz)) (he:es[k]? =some e) (hr:z1w e.cells o sz=some v):∃ cv,(Instr.loadAt t pa).run P w= .ok cv w∧VR G I v cv:=by
 simp only[VR] at hp
 obtain⟨i,hi,_,rfl⟩:=hp
 obtain⟨i',cs,ty,hi',_,hw,_,_,_,_,_,hE,_⟩:=rel.obj s _ (z8z hb)
 obtain rfl:i=i':=by rw[hi] at hi';simpa using hi'
 obtain⟨cv,hrun,hv⟩:=q0i (x1y hw hE he) hs hr
 exact⟨cv,by simpa [Instr.loadAt,Instr.sureAddr] using hrun,hv⟩
theorem j8l {cs:List AV} {o:Nat} {pa:Value} {t:TypeId} {sz:Option Nat} {v:AV} (rel:Rel G I h w) (hp:VR G I (.iptr cs o) pa) (hs:z7o P t=some sz) (hr:z1w cs o sz=some v):∃ cv,(Instr.loadAt t pa).run P w= .ok cv w∧VR G I v cv:=by
 simp only[VR] at hp
 obtain⟨b,p,rfl,hc⟩:=hp
 obtain⟨cv,hrun,hv⟩:=q0i (j8k rel hc) hs hr
 exact⟨cv,by simpa [Instr.loadAt,Instr.sureAddr] using hrun,hv⟩
end
end
section
theorem z3o (h:List AObj) (a b:List (Nat×Nat)):freezeAll h (a++b)=freezeAll (freezeAll h a) b:=by
 induction a generalizing h with
 | nil=>rfl
 | cons x a ih=>simp only[List.cons_append,freezeAll];rw[ih]
def freeze1 (h:List AObj) (s n:Nat):List AObj:=
 match h[s]? with
 | some (.blk g es row grow fz)=>h.set s (.blk g es row grow (max fz n))
 | _=>h
theorem z6l (h:List AObj) (s n:Nat):freezeAll h [(s,n)]=freeze1 h s n:=by
 simp only[freezeAll,freeze1]
 cases h[s]? with
 | none=>rfl
 | some o=>cases o <;> rfl
def Frozen (h h1:List AObj):Prop:=
 h1.length=h.length∧∀ (i:Nat) o,h[i]? =some o→match o with
  | .blk g es row grow _=>∃ fz',h1[i]? =some (.blk g es row grow fz')
  | o=>h1[i]? =some o
theorem Frozen.refl (h:List AObj):Frozen h h:=⟨rfl,fun i o ho=>by cases o <;> first | exact ho | exact⟨_,ho⟩⟩
theorem Frozen.trans {h h1 h2:List AObj} (a:Frozen h h1) (b:Frozen h1 h2):Frozen h h2:=
 ⟨b.1.trans a.1,fun i o ho=>by
  have ha:=a.2 i o ho
  cases o with
  | blk g es row grow fz=>
    obtain⟨fz',h1'⟩:=ha
    exact b.2 i _ h1'
  | dead=>exact b.2 i _ ha
  | tip g e=>exact b.2 i _ ha
  | map g es=>exact b.2 i _ ha⟩
theorem x1m (h:List AObj) (s n:Nat):Frozen h (freeze1 h s n):=by
 unfold freeze1
 split
 ·rename_i g es row grow fz heq
  refine⟨by simp,fun i o ho=> ?_⟩
  by_cases hi:i=s
  ·subst hi
   rw[heq] at ho
   simp at ho
   subst ho
   have:=(x9.1 heq).1
   exact⟨_,by rw[List.getElem?_set_self this]⟩
  ·have:(h.set s (.blk g es row grow (max fz n)))[i]? =some o:=by rw[List.getElem?_set_ne (Ne.symm hi)];exact ho
   cases o <;> first | exact this | exact⟨_,this⟩
 ·exact Frozen.refl h
theorem z2d (h:List AObj) (l:List (Nat×Nat)):Frozen h (freezeAll h l):=by
 induction l generalizing h with
 | nil=>exact Frozen.refl h
 | cons x l ih=>
   rw[show x::l=[x]++l from rfl,z3o,z6l]
   exact (x1m h _ _).trans (ih _)
section
variable {P:Program} {G:Ghost} {I:Imm} {h:List AObj} {w:World}
theorem q5v {h1:List AObj} (f:Frozen h h1) {i b:Nat} {o:AObj} (ho:h1[i]? =some o) (hb:own G o=some b):∃ o',h[i]? =some o'∧own G o'=some b:=by
 have hi:i < h.length:=by
  rw[←f.1]
  exact (x9.1 ho).1
 have hx:=f.2 i h[i] (v9 hi)
 refine⟨h[i],v9 hi, ?_⟩
 cases hc:h[i] with
 | blk g es row grow fz=>
   rw[hc] at hx
   obtain⟨fz',h2⟩:=hx
   rw[ho] at h2
   simp at h2
   subst h2
   exact hb
 | dead=>rw[hc] at hx;simp only at hx;rw[ho] at hx;simp at hx;subst hx;exact hb
 | tip g e=>rw[hc] at hx;simp only at hx;rw[ho] at hx;simp at hx;subst hx;exact hb
 | map g es=>rw[hc] at hx;simp only at hx;rw[ho] at hx;simp at hx;subst hx;exact hb
theorem x9m {s g n:Nat} {es:List AV} {grow:Bool} {fz:Nat} (rel:Rel G I h w) (hs:h[s]? =some (.blk g es true grow fz)) (hn:n≤es.length):
  ∃ I' i,ILe I I'∧Rel G I' (freeze1 h s n) w∧G g=some i∧0 < i.esz∧(∀ k x,k < n→es[k]? =some x→x.cells.length=i.esz∧CellsI G I' x.cells i.blk (k * i.esz))∧(∀ b,b≠i.blk→∀ o v,I' b o=some v→I b o=some v):=by
 have hob:=rel.obj s _ hs
 obtain⟨i,cs,t,hi,hsl,hw,hsz,hpos,hcap,hgr,hfz,hE,hI⟩:=hob
 let I':Imm:=fun b o=>if b=i.blk∧o < max fz n * i.esz then w.cell? ⟨b,o,none⟩ else I b o
 have hle:ILe I I':=fun b o v hv=>by
  show (if b=i.blk∧o < max fz n * i.esz then w.cell? ⟨b,o,none⟩ else I b o)=some v
  split
  ·exact rel.imm b o v hv
  ·exact hv
 have hother:∀ b o v,b≠i.blk→I' b o=some v→I b o=some v:=fun b o v hb hv=>by
  have:(if b=i.blk∧o < max fz n * i.esz then w.cell? ⟨b,o,none⟩ else I b o)=some v:=hv
  rwa [if_neg (fun hc=>hb hc.1)] at this
 have hown:own G (.blk g es true grow fz)=some i.blk:=by simp[own,hi]
 have hslt:=(x9.1 hs).1
 have hf:freeze1 h s n=h.set s (.blk g es true grow (max fz n)):=by simp[freeze1,hs]
 refine⟨I',i,hle, ?_,hi,hpos, ?_,fun b hb o v hv=>hother b o v hb hv⟩
 ·rw[hf]
  refine⟨fun b o v hv=> ?_,fun j o hj=> ?_,fun j k oj ok b hj hk h1 h2=> ?_⟩
  ·have:(if b=i.blk∧o < max fz n * i.esz then w.cell? ⟨b,o,none⟩ else I b o)=some v:=hv
   split at this
   ·exact this
   ·exact rel.imm b o v this
  ·rcases getElem?_set_cases hj with ⟨rfl,rfl⟩ | ⟨hne,hj⟩
   ·refine⟨i,cs,t,hi,hsl,hw,hsz,hpos,hcap,hgr,⟨by have:=hfz.1;omega,fun h=>by simp at h⟩,hE.mono (GLe.refl _) hle,fun o v hv=> ?_⟩
    have:(if i.blk=i.blk∧o < max fz n * i.esz then w.cell? ⟨i.blk,o,none⟩ else I i.blk o)=some v:=hv
    split at this
    ·rename_i hc;exact hc.2
    ·have:=hI o v this
     have:fz * i.esz≤max fz n * i.esz:=w8 _ (Nat.le_max_left _ _)
     omega
   ·have ho:=rel.obj j o hj
    have hnb:∀ b,own G o=some b→b≠i.blk:=fun b hb e=>by
     subst e
     exact hne (rel.inj j s o _ _ hj hs hb hown)
    cases o with
    | dead=>trivial
    | blk g' es' row' grow' fz'=>
      obtain⟨i',cs',t',h1,h2,h3,h4,h5,h6,h7,h8,h9,h10⟩:=ho
      have:=hnb i'.blk (by simp[own,h1])
      exact⟨i',cs',t',h1,h2,h3,h4,h5,h6,h7,h8,h9.mono (GLe.refl _) hle,fun o v hv=>h10 o v (hother _ _ _ this hv)⟩
    | tip g' e=>
      obtain⟨i',h1,h2,h3,h4⟩:=ho
      refine⟨i',h1,h2,h3,fun hr=> ?_⟩
      obtain⟨cs',t',h5,h6,h7⟩:=h4 hr
      have:=hnb i'.blk (by simp[own,h1,hr])
      exact⟨cs',t',h5,h6,fun o v hv=>h7 o v (hother _ _ _ this hv)⟩
    | map g' es'=>
      obtain⟨i',ents,clk,h1,h2,h3,h4⟩:=ho
      exact⟨i',ents,clk,h1,h2,h3,h4.mono (GLe.refl _) hle⟩
  ·rcases getElem?_set_cases hj with ⟨e1,rfl⟩ | ⟨hj1,hj2⟩ <;> rcases getElem?_set_cases hk with ⟨e2,rfl⟩ | ⟨hk1,hk2⟩
   ·rw[e1,e2]
   ·rw[e1]
    exact rel.inj s k _ ok b hs hk2 (by simpa [own] using h1) h2
   ·rw[e2]
    exact rel.inj j s oj _ b hj2 hs h1 (by simpa [own] using h2)
   ·exact rel.inj j k oj ok b hj2 hk2 h1 h2
 ·intro k x hk hx
  obtain⟨hl,hc⟩:=hE k x hx
  refine⟨hl,z6x.2 fun j c hj=> ?_⟩
  obtain⟨v,hv,hr⟩:=hc j c hj
  refine⟨v, ?_,VR.mono (GLe.refl _) hle hr⟩
  show (if i.blk=i.blk∧k * i.esz + j < max fz n * i.esz then w.cell? ⟨i.blk,k * i.esz + j,none⟩ else I i.blk (k * i.esz + j))=some v
  have hjl:j < i.esz:=by
   rw[←hl]
   exact (x9.1 hj).1
  have:k * i.esz + j < max fz n * i.esz:=by
   have h1:(k + 1) * i.esz≤max fz n * i.esz:=w8 _ (j1 hk (Nat.le_max_right _ _))
   rw[k9] at h1
   omega
  rw[if_pos ⟨rfl,this⟩]
  simp[World.cell?,hw,hv]
def NoNew (G:Ghost) (h:List AObj) (I I':Imm):Prop:=∀ b,(∀ (i:Nat) o,h[i]? =some o→own G o≠some b)→∀ o v,I' b o=some v→I b o=some v
theorem NoNew.refl:NoNew G h I I:=fun _ _ _ _ hv=>hv
theorem NoNew.ifr {I':Imm} (n:NoNew G h I I'):IFr G h w I I':=fun b _ hn=>n b hn
theorem j2p {s g off len:Nat} {xs:List AV} (hr:q3h h s g off len=some xs):∃ es grow fz,h[s]? =some (.blk g es true grow fz)∧off + len≤es.length∧xs=(es.drop off).take len:=by
 unfold q3h at hr
 split at hr
 ·rename_i es grow fz heq
  split at hr
  ·simp at hr
   exact⟨es,grow,fz,z8z heq, ‹_›,hr.symm⟩
  ·simp at hr
 ·simp at hr
mutual
theorem q8h:∀ {v v':AV} {cv:Value} {G:Ghost} {I:Imm} {h h1:List AObj} {w:World},conv h v=some v'→VR G I v cv→Frozen h h1→Rel G I h1 w→
  ∃ I',ILe I I'∧Rel G I' (freezeAll h1 v.obs) w∧VR G I' v' cv∧NoNew G h1 I I'
 | .agg cs,_,_,G,I,h,h1,w,hc,hv,hf,rel=>by
   simp only[conv,x5] at hc
   obtain⟨cs',hc,rfl⟩:=hc
   simp only[VR] at hv
   obtain⟨vs,rfl,hv⟩:=hv
   obtain⟨I',hle,r',hv',hn⟩:=q7p hc hv hf rel
   exact⟨I',hle,by simpa only[AV.obs] using r',by simp only[VR];exact⟨vs,rfl,hv'⟩,hn⟩
 | .tup cs,_,_,G,I,h,h1,w,hc,hv,hf,rel=>by
   simp only[conv,x5] at hc
   obtain⟨cs',hc,rfl⟩:=hc
   simp only[VR] at hv
   obtain⟨vs,rfl,hv⟩:=hv
   obtain⟨I',hle,r',hv',hn⟩:=q7p hc hv hf rel
   exact⟨I',hle,by simpa only[AV.obs] using r',by simp only[VR];exact⟨vs,rfl,hv'⟩,hn⟩
 | .sl xs t,_,_,G,I,h,h1,w,hc,hv,hf,rel=>by
   simp only[conv,Option.some.injEq] at hc
   subst hc
   simp only[VR] at hv
   obtain⟨A,n,c,rfl,h2,h3,_,h5⟩:=hv
   exact⟨I,ILe.refl _,by simpa only[AV.obs,freezeAll] using rel,by simp only[VR];exact⟨A,n,c,rfl,h2,h3,trivial,h5⟩,NoNew.refl⟩
 | .ob s g off len,_,_,G,I,h,h1,w,hc,hv,hf,rel=>by
   simp only[conv,x5] at hc
   obtain⟨xs,hc,rfl⟩:=hc
   obtain⟨es,grow,fz,hs,hle,rfl⟩:=j2p hc
   obtain⟨fz',hs'⟩:=hf.2 s _ hs
   obtain⟨I',i,hI,r',hi,hpos,hcells,hnn⟩:=x9m rel hs' hle
   simp only[VR] at hv
   obtain⟨i',A,c,hi',_,rfl,h3,h4,h5⟩:=hv
   obtain rfl:i=i':=by rw[hi] at hi';simpa using hi'
   refine⟨I',hI,by simpa only[AV.obs,z6l] using r', ?_,fun b hb o v hv=>hnn b (fun e=>hb s _ hs' (by simp[own,hi,e])) o v hv⟩
   simp only[VR]
   refine⟨A,len,c,rfl,by simp;omega,h3,trivial, ?_⟩
   rcases h5 with h5 | h5
   ·exact .inl (by omega)
   ·refine .inr ⟨i.blk,off * i.esz,i.esz,h5,hpos,z5u.2 fun k x hx=> ?_⟩
    have hk:k < len:=by
     have:=(x9.1 hx).1
     simp at this
     omega
    rw[l8 hk,d8] at hx
    have:=hcells (off + k) x (by omega) hx
    rwa [k9] at this
 | .undef,_,_,G,I,h,h1,w,hc,hv,hf,rel=>by
   simp only[conv,Option.some.injEq] at hc;subst hc;exact⟨I,ILe.refl _,by simpa only[AV.obs,freezeAll] using rel,hv,NoNew.refl⟩
 | .int ..,_,_,G,I,h,h1,w,hc,hv,hf,rel=>by
   simp only[conv,Option.some.injEq] at hc;subst hc;exact⟨I,ILe.refl _,by simpa only[AV.obs,freezeAll] using rel,hv,NoNew.refl⟩
 | .bool _,_,_,G,I,h,h1,w,hc,hv,hf,rel=>by
   simp only[conv,Option.some.injEq] at hc;subst hc;exact⟨I,ILe.refl _,by simpa only[AV.obs,freezeAll] using rel,hv,NoNew.refl⟩
 | .str _,_,_,G,I,h,h1,w,hc,hv,hf,rel=>by
   simp only[conv,Option.some.injEq] at hc;subst hc;exact⟨I,ILe.refl _,by simpa only[AV.obs,freezeAll] using rel,hv,NoNew.refl⟩
 | .ptr ..,_,_,G,I,h,h1,w,hc,hv,hf,rel=>by
   simp only[conv,Option.some.injEq] at hc;subst hc;exact⟨I,ILe.refl _,by simpa only[AV.obs,freezeAll] using rel,hv,NoNew.refl⟩
 | .iptr ..,_,_,G,I,h,h1,w,hc,hv,hf,rel=>by
   simp only[conv,Option.some.injEq] at hc;subst hc;exact⟨I,ILe.refl _,by simpa only[AV.obs,freezeAll] using rel,hv,NoNew.refl⟩
 | .nilptr,_,_,G,I,h,h1,w,hc,hv,hf,rel=>by
   simp only[conv,Option.some.injEq] at hc;subst hc;exact⟨I,ILe.refl _,by simpa only[AV.obs,freezeAll] using rel,hv,NoNew.refl⟩
 | .mp ..,_,_,G,I,h,h1,w,hc,hv,hf,rel=>by
   simp only[conv,Option.some.injEq] at hc;subst hc;exact⟨I,ILe.refl _,by simpa only[AV.obs,freezeAll] using rel,hv,NoNew.refl⟩
 | .nilmap,_,_,G,I,h,h1,w,hc,hv,hf,rel=>by
   simp only[conv,Option.some.injEq] at hc;subst hc;exact⟨I,ILe.refl _,by simpa only[AV.obs,freezeAll] using rel,hv,NoNew.refl⟩
 | .fn ..,_,_,G,I,h,h1,w,hc,hv,hf,rel=>by
   simp only[conv,Option.some.injEq] at hc;subst hc;exact⟨I,ILe.refl _,by simpa only[AV.obs,freezeAll] using rel,hv,NoNew.refl⟩
 | .nilfn,_,_,G,I,h,h1,w,hc,hv,hf,rel=>by
   simp only[conv,Option.some.injEq] at hc;subst hc;exact⟨I,ILe.refl _,by simpa only[AV.obs,freezeAll] using rel,hv,NoNew.refl⟩
 | .nilif,_,_,G,I,h,h1,w,hc,hv,hf,rel=>by
   simp only[conv,Option.some.injEq] at hc;subst hc;exact⟨I,ILe.refl _,by simpa only[AV.obs,freezeAll] using rel,hv,NoNew.refl⟩
 | .bwd ..,_,_,G,I,h,h1,w,hc,hv,hf,rel=>by
   simp only[conv,Option.some.injEq] at hc;subst hc;exact⟨I,ILe.refl _,by simpa only[AV.obs,freezeAll] using rel,hv,NoNew.refl⟩
theorem q7p:∀ {vs vs':List AV} {cvs:List Value} {G:Ghost} {I:Imm} {h h1:List AObj} {w:World},z8f h vs=some vs'→VRL G I vs cvs→Frozen h h1→Rel G I h1 w→
  ∃ I',ILe I I'∧Rel G I' (freezeAll h1 (z4u vs)) w∧VRL G I' vs' cvs∧NoNew G h1 I I'
 | [],_,_,G,I,h,h1,w,hc,hv,hf,rel=>by
   simp only[z8f,Option.some.injEq] at hc
   subst hc
   exact⟨I,ILe.refl _,by simpa only[z4u,freezeAll] using rel,hv,NoNew.refl⟩
 | v::vs,_,_,G,I,h,h1,w,hc,hv,hf,rel=>by
   simp only[z8f] at hc
   split at hc
   ·rename_i a b ha hb
    simp at hc
    subst hc
    simp only[VRL] at hv
    obtain⟨cv,cvs,rfl,hv1,hv2⟩:=hv
    obtain⟨I1,hI1,r1,hx,hn1⟩:=q8h ha hv1 hf rel
    obtain⟨I2,hI2,r2,hxs,hn2⟩:=q7p hb (VRL.mono (GLe.refl _) hI1 hv2) (hf.trans (z2d _ _)) r1
    refine⟨I2,hI1.trans hI2, ?_, ?_,fun b hb o v hv=>hn1 b hb o v (hn2 b (fun i x hi hx=>by
     obtain⟨o',h2,h3⟩:=q5v (z2d _ _) hi hx
     exact hb i o' h2 h3) o v hv)⟩
    ·simp only[z4u,z3o]
     exact r2
    ·simp only[VRL]
     exact⟨cv,cvs,rfl,VR.mono (GLe.refl _) hI2 hx,hxs⟩
   ·simp at hc
end
end
end
section
variable {P:Program} {G:Ghost} {I:Imm} {h:List AObj} {w:World} {gen slot:Nat}
theorem x1z {x:AV} {cv:Value} (h1:x.one=true) (hv:VR G I x cv):cv.oneCell'=true:=by
 cases x <;> simp only[VR] at hv <;> first
  | (simp[AV.one] at h1;done)
  | (subst hv;rfl)
  | (obtain⟨rfl,_⟩:=hv;rfl)
  | (obtain⟨_,_,_,rfl,_⟩:=hv;rfl)
  | (obtain⟨_,_,_,_,_,rfl,_⟩:=hv;rfl)
  | (obtain⟨_,_,_,rfl⟩:=hv;rfl)
  | (obtain⟨_,_,rfl,_⟩:=hv;rfl)
  | (obtain⟨_,rfl,_⟩:=hv;rfl)
theorem Rel.setRow {s g fz':Nat} {es es':List AV} {row grow:Bool} {fz:Nat} {i:GInfo} {cs cs':Array Value} {t:TypeId} (rel:Rel G I h w) (hs:h[s]? =some (.blk g es row grow fz))
  (hi:G g=some i) (hw:w.heap[i.blk]? =some (.cells cs t (0,0))) (hsz:cs'.size=cs.size) (hlen:es'.length≤i.cap) (hgr:grow=false→es'.length=i.cap) (hfz:fz'≤es'.length∧(row=false→fz'=0))
  (hE:ElemsR G I es' cs' i.esz) (hI:∀ o v,I i.blk o=some v→o < fz' * i.esz∧cs'[o]? =cs[o]?):Rel G I (h.set s (.blk g es' row grow fz')) (w.setRow i.blk cs'):=by
 obtain⟨i',cs0,t0,hi',hsl,hw',hsz',hpos,_,_,_,_,_⟩:=rel.obj s _ hs
 obtain rfl:i=i':=by rw[hi] at hi';simpa using hi'
 have hcs:cs0=cs:=by rw[hw] at hw';simp at hw';exact hw'.1.symm
 subst hcs
 have hown:own G (.blk g es row grow fz)=some i.blk:=by simp[own,hi]
 refine⟨fun b o v hv=> ?_,fun j o hj=> ?_,fun j k oj ok b hj hk h1 h2=> ?_⟩
 ·have h0:=rel.imm b o v hv
  by_cases hb:b=i.blk
  ·subst hb
   rw[cell_setRow_same w _ o _ cs' t _ hw,(hI o v hv).2]
   simpa [World.cell?,hw] using h0
  ·rw[cell_setRow_other w _ cs' _ hb]
   exact h0
 ·rcases getElem?_set_cases hj with ⟨rfl,rfl⟩ | ⟨hne,hj⟩
  ·exact⟨i,cs',t,hi,hsl,setRow_heap w _ _ cs' t _ hw,by omega,hpos,hlen,hgr,hfz,hE,fun o v hv=>(hI o v hv).1⟩
  ·refine (rel.obj j o hj).world fun b hb=>setRow_other w _ _ _ fun e=> ?_
   subst e
   exact hne (rel.inj j s o _ _ hj hs hb hown)
 ·rcases getElem?_set_cases hj with ⟨e1,rfl⟩ | ⟨hj1,hj2⟩ <;> rcases getElem?_set_cases hk with ⟨e2,rfl⟩ | ⟨hk1,hk2⟩
  ·rw[e1,e2]
  ·rw[e1]
   exact rel.inj s k _ ok b hs hk2 (by simpa [own] using h1) h2
  ·rw[e2]
   exact rel.inj j s oj _ b hj2 hs h1 (by simpa [own] using h2)
  ·exact rel.inj j k oj ok b hj2 hk2 h1 h2
theorem Fr.setRow {s:Nat} {o:AObj} {b:Nat} {cs':Array Value} (hs:h[s]? =some o) (ho:own G o=some b):Fr G h w (w.setRow b cs'):=
 ⟨rfl,rfl,rfl,by simp[World.setRow],fun k _ hn=>setRow_other w _ _ _ fun e=>hn s o hs (by rw[e];exact ho)⟩
theorem OwnLe.same {h':List AObj} (hh:∀ (i:Nat) o,h'[i]? =some o→∃ (j:Nat) (o':AObj),h[j]? =some o'∧∀ b,own G o=some b→own G o'=some b):OwnLe G h w G h':=
 fun i o b hi hb=>by
  obtain⟨j,o',h1,h2⟩:=hh i o hi
  exact .inl ⟨j,o',h1,h2 b hb⟩
theorem x2a {cells vs cs:List AV} {o:Nat} (hsp:z7m cells o vs=some cs):o + vs.length≤cells.length∧cs.length=cells.length∧∀ j,cs[j]? =if o≤j∧j < o + vs.length then vs[j - o]? else cells[j]? :=by
 unfold z7m at hsp
 split at hsp
 ·rename_i hle
  simp at hsp
  subst hsp
  refine⟨hle,by simp;omega,fun j=> ?_⟩
  by_cases h1:j < o
  ·rw[if_neg (by omega),g9 (by simp;omega),l8 h1]
  ·rw[b0 (by simp;omega)]
   simp only[u7,Nat.min_eq_left (show o≤cells.length by omega)]
   by_cases h2:j < o + vs.length
   ·rw[if_pos ⟨by omega,h2⟩,g9 (by omega)]
   ·rw[if_neg (by omega),b0 (by omega),d8]
    congr 1
    omega
 ·simp at hsp
theorem z7y {cs:Array Value} {vs:List Value} {o:Nat} (hle:o + vs.length≤cs.size) (j:Nat):
  (cs.toList.take o++vs++cs.toList.drop (o + vs.length)).toArray[j]? =if o≤j∧j < o + vs.length then vs[j - o]? else cs[j]? :=by
 rw[List.getElem?_toArray,←Array.getElem?_toList]
 by_cases h1:j < o
 ·rw[if_neg (by omega),u4,g9 (by simp;omega),l8 h1]
 ·rw[u4,b0 (by simp;omega)]
  simp only[u7,Array.length_toList,Nat.min_eq_left (show o≤cs.size by omega)]
  by_cases h2:j < o + vs.length
  ·rw[if_pos ⟨by omega,h2⟩,g9 (by omega)]
  ·rw[if_neg (by omega),b0 (by omega),d8]
   congr 1
   omega
theorem x6q {e:AV} {cs:List AV} (hl:cs.length=e.cells.length) (hn:cs.all AV.one=true∨∃ es,e= .agg es):(z7l e cs).cells=cs:=by
 by_cases ha:∃ es,e= .agg es
 ·obtain⟨es,rfl⟩:=ha
  rfl
 ·have hne:∀ es,e≠ .agg es:=fun es h=>ha ⟨es,h⟩
  rw[z7b hne] at hl
  have h1:=hn.resolve_right ha
  match cs,hl,h1 with
  | [c],_,h1=>
    have:z7l e [c]=c:=by cases e <;> first | rfl | exact absurd rfl (hne _)
    rw[this]
    simp at h1
    exact z7b fun es h=>by subst h;simp[AV.one] at h1
theorem j8m {s g k o:Nat} {es:List AV} {row grow:Bool} {fz:Nat} {e v:AV} {cs2:List AV} {cv pa:Value} {t:TypeId} {sz:Nat} (rel:Rel G I h w) (hp:VR G I (.ptr s g k o) pa) (hs:sizeP P t=some sz)
  (hb:h[s]? =some (.blk g es row grow fz)) (he:es[k]? =some e) (hd:v.def? =true) (hl:v.cells.length=sz) (h0:0 < sz) (h1:v.cells.all AV.one=true) (hfz:row=true→fz≤k) (hsp:z7m e.cells o v.cells=some cs2) (hv:VR G I v cv):
  ∃ b cs',own G (.blk g es row grow fz)=some b∧(Instr.storeAt t pa cv).run P w= .ok () (w.setRow b cs')∧Rel G I (h.set s (.blk g (es.set k (z7l e cs2)) row grow fz)) (w.setRow b cs'):=by
 simp only[VR] at hp
 obtain⟨i,hi,_,rfl⟩:=hp
 obtain⟨i',cs,ty,hi',hsl,hw,hsz,hpos,hcap,hgr,hfz',hE,hI⟩:=rel.obj s _ hb
 obtain rfl:i=i':=by rw[hi] at hi';simpa using hi'
 obtain⟨hlen,hcell⟩:=z9r hd hv
 obtain⟨hel,hec⟩:=hE k e he
 obtain⟨hle,hl2,hget⟩:=x2a hsp
 have hk:k < es.length:=(x9.1 he).1
 have hkc:(k + 1) * i.esz≤i.cap * i.esz:=w8 _ (by omega)
 rw[k9] at hkc
 have hone:∀ u∈cv.cells.toList,u.oneCell'=true:=fun u hu=>by
  obtain⟨j,hj⟩:=List.getElem?_of_mem hu
  have hjl:j < v.cells.length:=by
   rw[hlen,←Array.length_toList]
   exact (x9.1 hj).1
  obtain⟨u',hu',hr⟩:=hcell j v.cells[j] (v9 hjl)
  rw[←Array.getElem?_toList,hj] at hu'
  simp at hu'
  subst hu'
  exact x1z (y9.1 h1 _ (List.getElem_mem hjl)) hr
 have hst:=run_storeCells_at P i.blk (k * i.esz + o) ty cv.cells.toList 0 cs w hw (by simp;omega) hone
 refine⟨i.blk,_,by simp[own,hi], ?_,rel.setRow hb hi hw (cs':=(cs.toList.take (k * i.esz + o)++cv.cells.toList++cs.toList.drop (k * i.esz + o + cv.cells.toList.length)).toArray) (by simp;omega) (by simpa using hcap) (by simpa using hgr) (by simpa using hfz') ?_ ?_⟩
 ·unfold sizeP at hs
  cases hit:P.info? t with
  | none=>simp[hit] at hs
  | some it=>
    simp[hit] at hs
    have hcs:cv.cells.size=it.size:=by omega
    simp only[b4] at hst
    simp[Instr.storeAt,Instr.sureAddr,storeVar,sizeOf,typeInfo,hit,hcs]
    simpa [hcs] using hst
 ·intro k' x hx
  rcases getElem?_set_cases hx with ⟨rfl,rfl⟩ | ⟨hne,hx⟩
  ·have hrc:(z7l e cs2).cells=cs2:=by
    refine x6q hl2 ?_
    by_cases ha:∃ es,e= .agg es
    ·exact .inr ha
    ·refine .inl (y9.2 fun c hc=> ?_)
     have hne:∀ es,e≠ .agg es:=fun es h=>ha ⟨es,h⟩
     rw[z7b hne] at hle hl2 hget
     simp at hle hl2
     obtain⟨j,hj⟩:=List.getElem?_of_mem hc
     have hj0:j < 1:=by
      rw[←hl2]
      exact (x9.1 hj).1
     obtain rfl:j=0:=by omega
     rw[hget 0,if_pos ⟨by omega,by omega⟩] at hj
     exact y9.1 h1 c (List.mem_of_getElem? hj)
   rw[hrc]
   refine⟨by omega,fun j c hj=> ?_⟩
   rw[hget j] at hj
   rw[z7y (by simp;omega)]
   simp only[Array.length_toList]
   split at hj
   ·rename_i hin
    obtain⟨u,hu,hr⟩:=hcell _ c hj
    exact⟨u,by rw[if_pos ⟨by omega,by omega⟩,show k' * i.esz + j - (k' * i.esz + o)=j - o by omega,Array.getElem?_toList];exact hu,hr⟩
   ·rename_i hout
    obtain⟨u,hu,hr⟩:=hec j c hj
    exact⟨u,by rw[if_neg (by omega)];exact hu,hr⟩
  ·obtain⟨h2,h3⟩:=hE k' x hx
   refine⟨h2,fun j c hj=> ?_⟩
   obtain⟨u,hu,hr⟩:=h3 j c hj
   refine⟨u, ?_,hr⟩
   have hjl:j < i.esz:=by
    rw[←h2]
    exact (x9.1 hj).1
   rw[z7y (by simp;omega)]
   simp only[Array.length_toList]
   rw[if_neg ?_]
   ·exact hu
   ·intro hc
    rcases Nat.lt_or_gt_of_ne hne with hlt | hgt
    ·have:(k' + 1) * i.esz≤k * i.esz:=w8 _ hlt
     rw[k9] at this
     omega
    ·have:(k + 1) * i.esz≤k' * i.esz:=w8 _ hgt
     rw[k9] at this
     omega
 ·intro o' u hu
  have hlt:=hI o' u hu
  refine⟨hlt, ?_⟩
  have hfk:fz≤k:=by
   cases row with
   | true=>exact hfz rfl
   | false=>have:=hfz'.2 rfl;omega
  have:fz * i.esz≤k * i.esz:=w8 _ hfk
  rw[z7y (by simp;omega),if_neg (by omega)]
end
section
variable {P:Program} {G:Ghost} {I:Imm} {h:List AObj} {w:World} {gen slot:Nat}
theorem x3z (vs:List Value):∀ (cs:Array Value) (off k:Nat),off + k + vs.length≤cs.size→
  ((vs.zipIdx k).foldl (fun cs (p:Value×Nat)=>cs.setIfInBounds (off + p.2) p.1) cs).size=cs.size∧
  ∀ j,((vs.zipIdx k).foldl (fun cs (p:Value×Nat)=>cs.setIfInBounds (off + p.2) p.1) cs)[j]? =if off + k≤j∧j < off + k + vs.length then vs[j - (off + k)]? else cs[j]? :=by
 induction vs with
 | nil=>intro cs off k _;exact⟨rfl,fun j=>by simp;intro h1 h2;omega⟩
 | cons v vs ih=>
   intro cs off k hle
   simp only[List.length_cons] at hle
   simp only[List.zipIdx_cons,List.foldl_cons]
   obtain⟨h1,h2⟩:=ih (cs.setIfInBounds (off + k) v) off (k + 1) (by simp;omega)
   refine⟨by simpa using h1,fun j=> ?_⟩
   rw[h2 j]
   by_cases hj:j=off + k
   ·subst hj
    rw[if_neg (by omega),if_pos ⟨by omega,by simp⟩]
    have:off + k < cs.size:=by omega
    simp[this]
   ·by_cases hin:off + (k + 1)≤j∧j < off + (k + 1) + vs.length
    ·rw[if_pos hin,if_pos ⟨by omega,by simp;omega⟩]
     rw[show j - (off + k)=(j - (off + (k + 1))) + 1 by omega]
     rfl
    ·rw[if_neg hin,if_neg (by simp;omega)]
     simp[Ne.symm hj]
theorem x6r {cs:Array Value} {v:Value} {off:Nat} (hle:off + v.cells.size≤cs.size):
  (v.cells.zipIdx.foldl (fun cs (c,j)=>cs.setIfInBounds (off + j) c) cs).size=cs.size∧
  ∀ j,(v.cells.zipIdx.foldl (fun cs (c,j)=>cs.setIfInBounds (off + j) c) cs)[j]? =if off≤j∧j < off + v.cells.size then v.cells[j - off]? else cs[j]? :=by
 have he:v.cells.zipIdx.foldl (fun cs (c,j)=>cs.setIfInBounds (off + j) c) cs=(v.cells.toList.zipIdx 0).foldl (fun cs (p:Value×Nat)=>cs.setIfInBounds (off + p.2) p.1) cs:=by
  rw[←Array.foldl_toList,Array.toList_zipIdx]
 rw[he]
 have:=x3z v.cells.toList cs off 0 (by simpa using hle)
 simp only[b4,Array.length_toList,Array.getElem?_toList] at this
 exact this
def ArrR (G:Ghost) (I:Imm) (cells:List AV) (cs:Array Value):Prop:=
 cells.length=cs.size∧∀ (j:Nat) c,cells[j]? =some c→∃ v,cs[j]? =some v∧VR G I c v
theorem ArrR.agg {cells:List AV} {cs:Array Value} (ha:ArrR G I cells cs):VR G I (.agg cells) (.agg cs):=by
 simp only[VR]
 refine⟨cs,rfl,z9j.2 ⟨by simpa using ha.1,fun j c u hj hu=> ?_⟩⟩
 obtain⟨v,hv,hr⟩:=ha.2 j c hj
 rw[Array.getElem?_toList,hv] at hu
 simp at hu
 subst hu
 exact hr
theorem ArrR.of_val {x:AV} {cv:Value} (hd:x.def? =true) (hv:VR G I x cv):ArrR G I x.cells cv.cells:=z9r hd hv
theorem j8n {q0a:Nat→Option (Nat×Nat)}:∀ (ps:List (Nat×Nat×AV)) (qs:List (Nat×Value)) (cells cs':List AV) (ccs:Array Value),ArrR G I cells ccs→
  ps.length=qs.length→(∀ (k:Nat) p q,ps[k]? =some p→qs[k]? =some q→q0a q.1=some (p.1,p.2.1)∧VR G I p.2.2 q.2)→z5o cells ps=some cs'→
  ∃ ccs',Instr.fill q0a ccs qs=some ccs'∧ArrR G I cs' ccs'
 | [],[],cells,cs',ccs,ha,_,_,hf=>by
   simp[z5o] at hf
   subst hf
   exact⟨ccs,rfl,ha⟩
 | [],_::_,_,_,_,_,hl,_,_=>by simp at hl
 | _::_,[],_,_,_,_,hl,_,_=>by simp at hl
 | (off,sz,v)::ps,(i,u)::qs,cells,cs',ccs,ha,hl,hp,hf=>by
   obtain⟨hpl,hv⟩:=hp 0 _ _ rfl rfl
   simp only at hpl hv
   simp only[z5o] at hf
   split at hf
   ·rename_i hc
    cases hsp:z7m cells off v.cells with
    | none=>simp[hsp] at hf
    | some c1=>
      simp only[hsp,Option.bind_some] at hf
      obtain⟨hvl,hvc⟩:=z9r hc.1 hv
      obtain⟨hle,hl2,hget⟩:=x2a hsp
      have hle':off + u.cells.size≤ccs.size:=by rw[←hvl,←ha.1];exact hle
      obtain⟨hs1,hs2⟩:=x6r (cs:=ccs) (v:=u) hle'
      have ha1:ArrR G I c1 (u.cells.zipIdx.foldl (fun cs (c,j)=>cs.setIfInBounds (off + j) c) ccs):=by
       refine⟨by rw[hl2,hs1,ha.1],fun j c hj=> ?_⟩
       rw[hget j] at hj
       rw[hs2 j]
       split at hj
       ·rename_i hin
        rw[if_pos ⟨hin.1,by omega⟩]
        exact hvc _ c hj
       ·rename_i hout
        rw[if_neg (by omega)]
        exact ha.2 j c hj
      obtain⟨ccs',hfill,har⟩:=j8n ps qs c1 cs' _ ha1 (by simpa using hl) (fun k p q h1 h2=>hp (k + 1) p q (by simpa using h1) (by simpa using h2)) hf
      refine⟨ccs', ?_,har⟩
      simp only[Instr.fill,hpl]
      rw[if_neg (by simp[show u.cells.size=sz by omega];omega)]
      exact hfill
   ·simp at hf
def w2b (G:Ghost) (I:Imm) (es:List AV) (cs:Array Value) (sz:Nat):Prop:=cs.size=es.length * sz∧ElemsR G I es cs sz
theorem z8j {a b c s:Nat} (h1:a < b) (h2:c < s):a * s + c < b * s:=by
 have:(a + 1) * s≤b * s:=w8 _ h1
 rw[k9] at this
 omega
theorem x2b {sz:Nat}:∀ (is:List Nat) (vs:List AV) (qs:List (Nat×Value)) (es es':List AV) (ccs:Array Value),w2b G I es ccs sz→
  is.length=qs.length→vs.length=qs.length→(∀ (k:Nat) i v q,is[k]? =some i→vs[k]? =some v→qs[k]? =some q→q.1=i∧VR G I v q.2)→z4f sz es is vs=some es'→
  ∃ ccs',Instr.fill (fun i=>some (i * sz,sz)) ccs qs=some ccs'∧w2b G I es' ccs' sz∧es'.length=es.length
 | [],[],[],es,es',ccs,ha,_,_,_,hf=>by
   simp[z4f] at hf
   subst hf
   exact⟨ccs,rfl,ha,rfl⟩
 | i::is,v::vs,(q,u)::qs,es,es',ccs,ha,hl1,hl2,hp,hf=>by
   obtain⟨rfl,hv⟩:=hp 0 _ _ _ rfl rfl rfl
   simp only at hv hf
   simp only[z4f] at hf
   split at hf
   ·rename_i hc
    obtain⟨hvl,hvc⟩:=z9r hc.2.1 hv
    have hb:q * sz + u.cells.size≤ccs.size:=by
     have:(q + 1) * sz≤es.length * sz:=w8 _ hc.1
     rw[k9] at this
     rw[ha.1]
     omega
    obtain⟨hs1,hs2⟩:=x6r (cs:=ccs) (v:=u) hb
    have ha1:w2b G I (es.set q v) (u.cells.zipIdx.foldl (fun cs (c,j)=>cs.setIfInBounds (q * sz + j) c) ccs) sz:=by
     refine⟨by rw[hs1,ha.1];simp,fun k x hx=> ?_⟩
     rcases getElem?_set_cases hx with ⟨rfl,rfl⟩ | ⟨hne,hx⟩
     ·refine⟨hc.2.2,fun j c hj=> ?_⟩
      have hjl:=(x9.1 hj).1
      rw[hs2,if_pos ⟨by omega,by omega⟩,show k * sz + j - k * sz=j by omega]
      exact hvc j c hj
     ·obtain⟨h1,h2⟩:=ha.2 k x hx
      refine⟨h1,fun j c hj=> ?_⟩
      have hjl:=(x9.1 hj).1
      rw[hs2,if_neg ?_]
      ·exact h2 j c hj
      ·intro hcc
       rcases Nat.lt_or_gt_of_ne hne with hlt | hgt
       ·have:=z8j hlt (show j < sz by omega)
        omega
       ·have:(q + 1) * sz≤k * sz:=w8 _ hgt
        rw[k9] at this
        omega
    obtain⟨ccs',hfill,har,hlen⟩:=x2b is vs qs (es.set q v) es' _ ha1 (by simpa using hl1) (by simpa using hl2) (fun k i v q h1 h2 h3=>hp (k + 1) i v q (by simpa using h1) (by simpa using h2) (by simpa using h3)) hf
    refine⟨ccs', ?_,har,by simpa using hlen⟩
    simp only[Instr.fill]
    rw[if_neg (by simp[show u.cells.size=sz by omega];omega)]
    exact hfill
   ·simp at hf
 | [],_::_,_,es,es',ccs,_,_,_,_,hf=>by simp[z4f] at hf
 | _::_,[],_,es,es',ccs,_,_,_,_,hf=>by simp[z4f] at hf
 | [],[],_::_,_,_,_,_,hl,_,_,_=>by simp at hl
 | _::_,_::_,[],_,_,_,_,hl,_,_,_=>by simp at hl
theorem q8i {z:AV} {zc:Array Value} {n:Nat} (hz:ArrR G I z.cells zc):w2b G I (List.replicate n z) ((Array.range (n * zc.size)).map fun i=>zc[i % zc.size]!) zc.size:=by
 refine⟨by simp,fun k x hx=> ?_⟩
 have hk:k < n:=by
  have:=(x9.1 hx).1
  simpa using this
 simp[hk] at hx
 subst hx
 refine⟨hz.1,fun j c hj=> ?_⟩
 obtain⟨v,hv,hr⟩:=hz.2 j c hj
 have hj':j < zc.size:=(Array.getElem?_eq_some_iff.1 hv).1
 refine⟨v, ?_,hr⟩
 have hlt:=z8j hk hj'
 have hm:(k * zc.size + j) % zc.size=j:=by
  rw[Nat.mul_comm,Nat.mul_add_mod]
  exact Nat.mod_eq_of_lt hj'
 rw[Array.getElem?_map,Array.getElem?_range,if_pos hlt]
 simp[hm,hv,getElem!_def]
end
section
theorem x6s {a b:Nat} (ha:a < 256) (hb:b < 256) (h:UInt8.ofNat a=UInt8.ofNat b):a=b:=by
 have:=congrArg UInt8.toNat h
 simp[UInt8.toNat_ofNat'] at this
 omega
theorem q0j {a:Nat} (ha:a < 256):(UInt8.ofNat a).toNat=a:=by
 simp[UInt8.toNat_ofNat']
 omega
theorem z4a (s:List Nat):(z7r s).size=s.length:=by
 show ((s.map UInt8.ofNat).toArray).size=s.length
 simp
theorem q0k (s:List Nat):(z7r s).toList=s.map UInt8.ofNat:=by
 rw[ByteArray.toList_eq]
 simp[z7r]
theorem x9n (a b:List Nat):z7r a++z7r b=z7r (a++b):=by
 apply ByteArray.ext
 simp[z7r]
theorem v4n {a b:List Nat} (ha:∀ x∈a,x < 256) (hb:∀ x∈b,x < 256) (h:a.map UInt8.ofNat=b.map UInt8.ofNat):a=b:=by
 induction a generalizing b with
 | nil=>cases b <;> simp at h⊢
 | cons x a ih=>
   cases b with
   | nil=>simp at h
   | cons y b=>
     simp at h
     rw[x6s (ha x (by simp)) (hb y (by simp)) h.1,ih (fun z hz=>ha z (by simp[hz])) (fun z hz=>hb z (by simp[hz])) h.2]
theorem v1b {a b:List Nat} (ha:∀ x∈a,x < 256) (hb:∀ x∈b,x < 256):((z7r a).toList==(z7r b).toList)=decide (a=b):=by
 rw[q0k,q0k]
 by_cases h:a=b
 ·subst h;simp
 ·have:¬ a.map UInt8.ofNat=b.map UInt8.ofNat:=fun e=>h (v4n ha hb e)
  simp only[h,decide_false]
  exact beq_eq_false_iff_ne.2 this
theorem j2q:∀ {a b:List Nat},(∀ x∈a,x < 256)→(∀ x∈b,x < 256)→Op.bytesLess (a.map UInt8.ofNat) (b.map UInt8.ofNat)=z5l a b
 | _,[],_,_=>by simp[Op.bytesLess,z5l]
 | [],_::_,_,_=>by simp[Op.bytesLess,z5l]
 | x::a,y::b,ha,hb=>by
   have hx:=ha x (by simp)
   have hy:=hb y (by simp)
   have ih:=j2q (a:=a) (b:=b) (fun z hz=>ha z (by simp[hz])) (fun z hz=>hb z (by simp[hz]))
   simp only[List.map_cons,Op.bytesLess,z5l,ih]
   have h1:decide (UInt8.ofNat x < UInt8.ofNat y)=decide (x < y):=by
    simp only[UInt8.lt_iff_toNat_lt,q0j hx,q0j hy]
   have h2:(UInt8.ofNat x==UInt8.ofNat y)=decide (x=y):=by
    by_cases he:x=y
    ·subst he;simp
    ·simp only[he,decide_false]
     exact beq_eq_false_iff_ne.2 fun e=>he (x6s hx hy e)
   rw[h1,h2]
section
variable {P:Program} {G:Ghost} {I:Imm} {h:List AObj} {w:World} {gen slot:Nat}
theorem u1h {a b:Int}:(a==b)=decide (a=b):=by by_cases h:a=b <;> simp[h]
theorem j8o {op:BinOp} {k:IntKind} {a b:Int} {t:TypeId} {v:AV} (hb:z7n op k a b=some v):∃ cv,(binOp op t (.int k a) (.int k b)).run P w= .ok cv w∧VR G I v cv:=by
 by_cases hq:op= .eql
 ·subst hq
  simp only[z7n,Option.some.injEq] at hb
  subst hb
  exact⟨.bool (a==b),by simp[binOp,Op.intCmp],by simp only[VR,u1h]⟩
 by_cases hn:op= .neq
 ·subst hn
  simp only[z7n,Option.some.injEq] at hb
  subst hb
  exact⟨.bool (a !=b),by simp[binOp,Op.intCmp],by simp only[VR,bne,u1h]⟩
 cases op <;> simp only[z7n,Option.some.injEq] at hb <;> first
  | exact absurd rfl hq
  | exact absurd rfl hn
  | (simp at hb;done)
  | (subst hb;exact⟨_,by simp[binOp,Op.intArith];rfl,by simp[VR]⟩)
  | (subst hb;exact⟨_,by simp[binOp,Op.intCmp];rfl,by simp[VR]⟩)
  | (split at hb
     ·simp at hb
     ·rename_i h0
      simp at hb
      subst hb
      exact⟨_,by simp[binOp,Op.intDiv,h0];rfl,by simp[VR]⟩)
theorem j8p {op:BinOp} {a b:List Nat} {t:TypeId} {v:AV} (ha:∀ x∈a,x < 256) (hb:∀ x∈b,x < 256) (hr:q8c op a b=some v):∃ cv,(binOp op t (.string (z7r a)) (.string (z7r b))).run P w= .ok cv w∧VR G I v cv:=by
 have he:=v1b ha hb
 have hl:Op.bytesLess (z7r a).toList (z7r b).toList=z5l a b:=by rw[q0k,q0k];exact j2q ha hb
 cases op <;> simp only[q8c,Option.some.injEq] at hr <;> first
  | (simp at hr;done)
  | (subst hr;exact⟨_,by simp only[binOp,Op.stringOp,he,hl];rfl,by simp[VR]⟩)
  | (split at hr
     ·rename_i hlt
      simp at hr
      subst hr
      refine⟨.string (z7r (a++b)), ?_,by simp only[VR];exact⟨trivial,fun x hx=>(List.mem_append.1 hx).elim (ha x) (hb x)⟩⟩
      have hsz:¬ (((z7r a).size + (z7r b).size:Nat):Int) > IntKind.i64.max:=by
       rw[z4a,z4a]
       have:IntKind.i64.max=9223372036854775807:=by decide
       rw[this]
       omega
      simp only[binOp,Op.stringOp]
      rw[if_neg hsz,x9n]
      rfl
     ·simp at hr)
theorem x6t {s:STy} {x y:AV} {a b:Value} {r:Bool} {t:TypeId} {d:Nat} (hs:sTy P t=some s) (hx:VR G I x a) (hy:VR G I y b) (he:x.eq1 s y=some r):
  (Op.equalIn (d + 1) t a b).run P w= .ok r w∧(part t #[a] 0).run P w= .ok a w∧Instr.sameNow ((P.underlying t).getD .invalid) a b=some r∧(∀ e n,(Instr.checkKey e (n + 1) t a).run P w= .ok () w):=by
 unfold sTy at hs
 cases hu:P.underlying t with
 | none=>simp[hu] at hs
 | some dd=>
   rw[hu] at hs
   cases dd <;> simp at hs <;> subst hs <;> cases x <;> cases y <;> simp only[AV.eq1] at he <;> first
    | (simp at he;done)
    | skip
   ·simp at he
    simp only[VR] at hx hy
    subst hx hy
    simp[Op.equalIn,run_underlying hu,part,z9s hu,j5w,Instr.sameNow,Instr.checkKey,he]
   ·split at he
    ·rename_i e
     subst e
     simp at he
     simp only[VR] at hx hy
     subst hx hy
     have hb:∀ p q:Int,(p==q)=decide (p=q):=fun p q=>by by_cases h:p=q <;> simp[h]
     simp[Op.equalIn,run_underlying hu,part,z9s hu,j5w,Instr.sameNow,Instr.checkKey,he,hb]
    ·simp at he
   ·simp at he
    simp only[VR] at hx hy
    obtain⟨rfl,hx⟩:=hx
    obtain⟨rfl,hy⟩:=hy
    have hb:=v1b hx hy
    rw[←beq_toListBytes] at hb
    simp[Op.equalIn,run_underlying hu,part,z9s hu,j5w,Instr.sameNow,Instr.checkKey,hb,he]
theorem q3i {s:STy} {t:TypeId} {cs:Array Value} {n:Nat} {v:Value} (hs:sTy P t=some s) (hv:cs[n]? =some v):(part t cs n).run P w= .ok v w:=by
 unfold sTy at hs
 cases hu:P.underlying t with
 | none=>simp[hu] at hs
 | some dd=>
   rw[hu] at hs
   cases dd <;> simp at hs <;> simp[part,z9s hu,j5w,hv]
theorem q8j {d:Nat} {xs ys:Array Value} {asx bs:List AV} (ha:ArrR G I asx xs) (hb:ArrR G I bs ys):∀ (fs:List Field) (n:Nat) (ts:List STy) (r:Bool),z3h P n fs=some ts→
  eqL ts (asx.drop n) (bs.drop n)=some r→(Op.eqFields (d + 1) xs ys fs).run P w= .ok r w
 | [],n,ts,r,hr,he=>by
   simp[z3h] at hr
   subst hr
   cases h1:asx.drop n <;> cases h2:bs.drop n <;> rw[h1,h2] at he <;> simp[eqL] at he
   subst he
   rfl
 | f::fs,n,ts,r,hr,he=>by
   simp only[z3h] at hr
   split at hr
   ·rename_i hf
    cases h1:sTy P f.type with
    | none=>simp[h1] at hr
    | some s=>
      cases h2:z3h P (n + 1) fs with
      | none=>simp[h1,h2] at hr
      | some ss=>
        simp[h1,h2] at hr
        subst hr
        cases hda:asx.drop n with
        | nil=>rw[hda] at he;simp[eqL] at he
        | cons x asx'=>
          cases hdb:bs.drop n with
          | nil=>rw[hda,hdb] at he;simp[eqL] at he
          | cons y bs'=>
            rw[hda,hdb] at he
            simp only[eqL] at he
            have ga:asx[n]? =some x:=by
             have:=congrArg (fun l=>l[0]?) hda
             simpa [d8] using this
            have gb:bs[n]? =some y:=by
             have:=congrArg (fun l=>l[0]?) hdb
             simpa [d8] using this
            have da:asx.drop (n + 1)=asx':=by rw[show asx.drop (n + 1)=(asx.drop n).drop 1 by rw[List.drop_drop],hda];rfl
            have db:bs.drop (n + 1)=bs':=by rw[show bs.drop (n + 1)=(bs.drop n).drop 1 by rw[List.drop_drop],hdb];rfl
            cases e1:x.eq1 s y with
            | none=>simp[e1] at he
            | some q=>
              cases e2:eqL ss asx' bs' with
              | none=>simp[e1,e2] at he
              | some q'=>
                simp[e1,e2] at he
                subst he
                obtain⟨u,hu,ru⟩:=ha.2 n x ga
                obtain⟨v,hv,rv⟩:=hb.2 n y gb
                have h3:=(x6t (w:=w) (d:=d) h1 ru rv e1).1
                have p1:=q3i (w:=w) h1 hu
                have p2:=q3i (w:=w) h1 hv
                have ih:=q8j (d:=d) ha hb fs (n + 1) ss q' h2 (by rw[da,db];exact e2)
                simp only[Op.eqFields,hf.1,hf.2,ne_eq,not_false_eq_true,if_true,Sem.run_bind,p1,p2,h3,Result.andThen]
                cases q <;> simp[ih]
   ·simp at hr
end
end
section
variable {P:Program} {G:Ghost} {I:Imm} {h:List AObj} {w:World} {gen slot:Nat}
theorem z7c {t:TypeId} {e:ETy} (hk:kTy P t=some e):(∃ s,sTy P t=some s∧e= .one s)∨
  (sTy P t=none∧∃ fs ts,P.underlying t=some (.struct fs)∧P.stoodInHeld t=false∧P.eqGuardType P.depth t=false∧z3h P 0 fs.toList=some ts∧e= .agg ts):=by
 unfold kTy at hk
 cases hs:sTy P t with
 | some s=>
   rw[hs] at hk
   simp at hk
   exact .inl ⟨s,rfl,hk.symm⟩
 | none=>
   rw[hs] at hk
   refine .inr ⟨rfl, ?_⟩
   cases hu:P.underlying t with
   | none=>rw[hu] at hk;simp at hk
   | some d=>
     rw[hu] at hk
     cases d <;> simp at hk
     obtain⟨⟨h1,h2⟩,ts,h3,h4⟩:=hk
     exact⟨_,ts,rfl,h1,h2,h3,h4.symm⟩
theorem ArrR.of_agg {cs:List AV} {a:Value} (hx:VR G I (.agg cs) a):∃ vs,a= .agg vs∧ArrR G I cs vs:=by
 have hc:=z9r (x:= .agg cs) rfl hx
 simp only[VR] at hx
 obtain⟨vs,rfl,_⟩:=hx
 exact⟨vs,rfl,hc⟩
theorem x9o {t:TypeId} {fs:Array Field} (hu:P.underlying t=some (.struct fs)):P.fieldsOf t=fs:=by
 unfold Program.fieldsOf
 rw[hu]
theorem x4a {t:TypeId} {e:ETy} {x y:AV} {a b:Value} {r:Bool} {d:Nat} (hk:kTy P t=some e) (hx:VR G I x a) (hy:VR G I y b) (he:x.eqv e y=some r):(Op.equalIn (d + 2) t a b).run P w= .ok r w:=by
 rcases z7c hk with ⟨s,hs,rfl⟩ | ⟨_,fs,ts,hu,h1,_,h3,rfl⟩
 ·simp only[AV.eqv] at he
  exact (x6t (w:=w) (d:=d + 1) hs hx hy he).1
 ·cases x <;> cases y <;> simp only[AV.eqv] at he <;> try (simp at he;done)
  obtain⟨us,rfl,ha⟩:=ArrR.of_agg hx
  obtain⟨vs,rfl,hb⟩:=ArrR.of_agg hy
  have hf:=x9o hu
  rw[run_equalIn_struct w (d + 1) t us vs (by rw[hf];exact hu) h1,hf]
  exact q8j (P:=P) (w:=w) (d:=d) ha hb fs.toList 0 ts r h3 (by simpa using he)
theorem x9p {t:TypeId} {e:ETy} {x y:AV} {a b:Value} {op:BinOp} {p q:Operand} {r:Bool} (hk:kTy P t=some e) (hx:VR G I x a) (hy:VR G I y b) (he:x.eqv e y=some r):(eqGuard op t p q a b).run P w= .ok () w:=by
 rcases z7c hk with ⟨s,hs,rfl⟩ | ⟨_,fs,ts,hu,_,h2,_,rfl⟩
 ·simp only[AV.eqv] at he
  cases s <;> cases x <;> cases y <;> simp only[AV.eq1] at he <;> (try (simp at he;done)) <;> simp only[VR] at hx hy
  ·subst hx hy
   cases op <;> rfl
  ·subst hx hy
   cases op <;> rfl
  ·obtain⟨rfl,_⟩:=hx
   obtain⟨rfl,_⟩:=hy
   cases op <;> rfl
 ·cases x <;> cases y <;> simp only[AV.eqv] at he <;> try (simp at he;done)
  obtain⟨us,rfl,_⟩:=ArrR.of_agg hx
  obtain⟨vs,rfl,_⟩:=ArrR.of_agg hy
  cases op <;> first
   | rfl
   | simp[eqGuard,h2]
theorem k4p {op:BinOp} {t:TypeId} {a b:Value} {r:Bool} (hni:∀ k n,a≠ .int k n) (hns:∀ s,a≠ .string s) (hnp:∀ p,a≠ .pointer p∨∀ k n,b≠ .int k n)
  (hop:op= .eql∨op= .neq) (hf:∀ k m,a≠ .float k m) (hc:∀ k m n,a≠ .complex k m n) (he:(Op.equal t a b).run P w= .ok r w):
  (binOp op t a b).run P w= .ok (.bool (if op= .eql then r else !r)) w:=by
 rcases hop with rfl | rfl
 ·have:binOp .eql t a b=(do pure (.bool (←Op.equal t a b)):Sem Value):=by
   unfold binOp
   cases a <;> first
    | rfl
    | exact absurd rfl (hni _ _)
    | exact absurd rfl (hns _)
    | exact absurd rfl (hf _ _)
    | exact absurd rfl (hc _ _ _)
    | (cases b <;> rfl)
  rw[this]
  simp[he]
 ·have:binOp .neq t a b=(do pure (.bool (!(←Op.equal t a b))):Sem Value):=by
   unfold binOp
   cases a <;> first
    | rfl
    | exact absurd rfl (hni _ _)
    | exact absurd rfl (hns _)
    | exact absurd rfl (hf _ _)
    | exact absurd rfl (hc _ _ _)
    | (cases b <;> rfl)
  rw[this]
  simp[he]
end
section
variable {P:Program} {G:Ghost} {I:Imm} {h:List AObj} {w:World} {gen slot:Nat}
theorem j8q {t:TypeId} {e:ETy} (he:eTy P t=some e):kTy P t=some e∨(∃ x,P.underlying t=some (.slice x)∧e= .sl)∨(∃ x,P.underlying t=some (.pointer x)∧e= .pt)∨
  (∃ x y,P.underlying t=some (.map x y)∧e= .mp)∨(∃ x y z,P.underlying t=some (.func x y z)∧e= .fn):=by
 unfold eTy at he
 split at he
 ·rename_i e' hk
  simp at he
  subst he
  exact .inl hk
 ·split at he <;> simp at he <;> subst he
  ·exact .inr (.inl ⟨_, ‹_›,rfl⟩)
  ·exact .inr (.inr (.inl ⟨_, ‹_›,rfl⟩))
  ·exact .inr (.inr (.inr (.inl ⟨_,_, ‹_›,rfl⟩)))
  ·exact .inr (.inr (.inr (.inr ⟨_,_,_, ‹_›,rfl⟩)))
theorem j5x {op:BinOp} {e:ETy} {x y v:AV} (hb:(match op with | .eql=>(x.eqv e y).map AV.bool | .neq=>(x.eqv e y).map fun b=> .bool !b | _=>none)=some v):
  ∃ r,x.eqv e y=some r∧(op= .eql∨op= .neq)∧v= .bool (if op= .eql then r else !r):=by
 cases op <;> simp only[x5] at hb <;> try (simp at hb;done)
 ·obtain⟨r,h1,rfl⟩:=hb
  exact⟨r,h1, .inl rfl,by simp⟩
 ·obtain⟨r,h1,rfl⟩:=hb
  exact⟨r,h1, .inr rfl,by simp⟩
section
variable {t:TypeId} {d:Nat}
theorem j8r {ms:Array (String×TypeId)} (hu:P.underlying t=some (.interface ms)):(Op.equalIn (d + 1) t .nilIface .nilIface).run P w= .ok true w:=by
 simp[Op.equalIn,run_underlying hu]
theorem j2r {x:TypeId} {A B:Option Addr} {n c m e:Nat} (hu:P.underlying t=some (.slice x)) (hn:A=none∨B=none):(Op.equalIn (d + 1) t (.slice A n c) (.slice B m e)).run P w= .ok (A.isNone && B.isNone) w:=by
 cases A <;> cases B <;> simp[Op.equalIn,run_underlying hu] at hn⊢
theorem w2j {x:TypeId} {A B:Option Addr} (hu:P.underlying t=some (.pointer x)) (hn:A=none∨B=none):(Op.equalIn (d + 1) t (.pointer A) (.pointer B)).run P w= .ok (A.isNone && B.isNone) w:=by
 cases A <;> cases B <;> simp[Op.equalIn,run_underlying hu] at hn⊢
theorem w2k {x y:TypeId} {A B:Option Nat} (hu:P.underlying t=some (.map x y)) (hn:A=none∨B=none):(Op.equalIn (d + 1) t (.map A) (.map B)).run P w= .ok (A.isNone && B.isNone) w:=by
 cases A <;> cases B <;> simp[Op.equalIn,run_underlying hu] at hn⊢
theorem v4o {x y:Array TypeId} {z:Bool} (hu:P.underlying t=some (.func x y z)):(Op.equalIn (d + 1) t .nilFunc .nilFunc).run P w= .ok true w:=by
 simp[Op.equalIn,run_underlying hu]
theorem v4p {x y:Array TypeId} {z:Bool} {f:Fn} {p q:Array Value} (hu:P.underlying t=some (.func x y z)):(Op.equalIn (d + 1) t .nilFunc (.func f p q)).run P w= .ok false w:=by
 simp[Op.equalIn,run_underlying hu]
theorem v4q {x y:Array TypeId} {z:Bool} {f:Fn} {p q:Array Value} (hu:P.underlying t=some (.func x y z)):(Op.equalIn (d + 1) t (.func f p q) .nilFunc).run P w= .ok false w:=by
 simp[Op.equalIn,run_underlying hu]
end
theorem z4y {op:BinOp} {t:TypeId} {p q:Operand} {a b:Value} (ha:∀ cs,a≠ .agg cs) (hn:a≠ .nilIface):(eqGuard op t p q a b).run P w= .ok () w:=by
 unfold eqGuard
 cases op <;> first
  | rfl
  | (cases a <;> first | rfl | exact absurd rfl (ha _) | exact absurd rfl hn)
theorem j5y {op:BinOp} {t:TypeId} {p q:Operand} (h:w2g P op t p q=true):(∃ ms,P.underlying t=some (.interface ms))∧((∃ c,p= .const c)∨∃ c,q= .const c):=by
 unfold w2g at h
 simp only[Bool.and_eq_true] at h
 obtain⟨⟨_,h2⟩,h3⟩:=h
 constructor
 ·cases hu:P.underlying t with
  | none=>rw[hu] at h2;simp at h2
  | some d=>rw[hu] at h2;cases d <;> simp at h2;exact⟨_,rfl⟩
 ·split at h3
  ·exact .inl ⟨_,rfl⟩
  ·exact .inr ⟨_,rfl⟩
  ·simp at h3
theorem w2l {op:BinOp} {t:TypeId} {e:ETy} {p q:Operand} {x y v:AV} {a b:Value} (hc:(w2g P op t p q=true∧e= .iface)∨eTy P t=some e) (hx:VR G I x a) (hy:VR G I y b) (hb:z4v op e x y=some v):
  ∃ cv,(do eqGuard op t p q a b;binOp op t a b:Sem Value).run P w= .ok cv w∧VR G I v cv:=by
 unfold z4v at hb
 split at hb
 ·split at hb
  ·rename_i k m j n hop
   simp only[VR] at hx hy
   subst hx hy
   unfold q7o at hb
   split at hb
   ·simp at hb
   ·rename_i hn
    rcases hop with rfl | rfl
    ·simp only[Option.some.injEq] at hb
     subst hb
     refine⟨.int k (k.wrap (m * 2 ^ (min n.toNat k.bits))), ?_,by simp only[VR]⟩
     rw[Sem.run_bind,z4y (by simp) (by simp)]
     show (Op.shift .shl k m j n).run P w=_
     simp[Op.shift,hn]
    ·simp only[Option.some.injEq] at hb
     subst hb
     refine⟨.int k (m.fdiv (2 ^ (min n.toNat k.bits))), ?_,by simp only[VR]⟩
     rw[Sem.run_bind,z4y (by simp) (by simp)]
     show (Op.shift .shr k m j n).run P w=_
     simp[Op.shift,hn]
  split at hb
  ·rename_i k m j n _ hk
   subst hk
   simp only[VR] at hx hy
   subst hx hy
   obtain⟨cv,h1,h2⟩:=j8o (P:=P) (G:=G) (I:=I) (w:=w) (t:=t) hb
   refine⟨cv, ?_,h2⟩
   rw[Sem.run_bind,z4y (by simp) (by simp)]
   exact h1
  ·simp at hb
 ·simp only[VR] at hx hy
  obtain⟨rfl,hx⟩:=hx
  obtain⟨rfl,hy⟩:=hy
  obtain⟨cv,h1,h2⟩:=j8p (P:=P) (G:=G) (I:=I) (w:=w) (t:=t) hx hy hb
  refine⟨cv, ?_,h2⟩
  rw[Sem.run_bind,z4y (by simp) (by simp)]
  exact h1
 ·rename_i hni hns
  obtain⟨r,he,hop,rfl⟩:=j5x hb
  have fin:∀ (hg:(eqGuard op t p q a b).run P w= .ok () w) (h1:∀ k n,a≠ .int k n) (h2:∀ s,a≠ .string s) (h3:∀ z,a≠ .pointer z∨∀ k n,b≠ .int k n) (h4:∀ k m,a≠ .float k m) (h5:∀ k m n,a≠ .complex k m n)
    (h6:(Op.equal t a b).run P w= .ok r w),∃ cv,(do eqGuard op t p q a b;binOp op t a b:Sem Value).run P w= .ok cv w∧VR G I (.bool (if op= .eql then r else !r)) cv:=by
   intro hg h1 h2 h3 h4 h5 h6
   refine⟨.bool (if op= .eql then r else !r), ?_,by simp[VR]⟩
   rw[Sem.run_bind,hg]
   exact k4p h1 h2 h3 hop h4 h5 h6
  rcases hc with ⟨hn,rfl⟩ | hc
  ·obtain⟨⟨ms,hu⟩,hcon⟩:=j5y hn
   cases x <;> cases y <;> simp only[AV.eqv] at he <;> try (simp at he;done)
   simp at he
   subst he
   simp only[VR] at hx hy
   subst hx hy
   refine fin ?_ (by simp) (by simp) (by simp) (by simp) (by simp) (j8r (d:=9999) hu)
   rcases hop with rfl | rfl <;> rcases hcon with ⟨c,rfl⟩ | ⟨c,rfl⟩ <;> simp[eqGuard]
  ·rcases j8q hc with hk | ⟨z,hu,rfl⟩ | ⟨z,hu,rfl⟩ | ⟨z,z',hu,rfl⟩ | ⟨z,z',z'',hu,rfl⟩
   ·refine fin (x9p hk hx hy he) ?_ ?_ ?_ ?_ ?_ (x4a (d:=9998) hk hx hy he)
    all_goals
     rcases z7c hk with ⟨s,_,rfl⟩ | ⟨_,fs,ts,_,_,_,_,rfl⟩
     ·simp only[AV.eqv] at he
      cases s <;> cases x <;> cases y <;> simp only[AV.eq1] at he <;> (try (simp at he;done)) <;> first
       | exact absurd rfl (hni _ _ _ _ rfl)
       | exact absurd rfl (hns _ _ rfl)
       | (simp only[VR] at hx hy;subst hx hy;simp)
     ·cases x <;> cases y <;> simp only[AV.eqv] at he <;> try (simp at he;done)
      obtain⟨us,rfl,_⟩:=ArrR.of_agg hx
      obtain⟨vs,rfl,_⟩:=ArrR.of_agg hy
      simp
   ·cases x <;> cases y <;> simp only[AV.eqv] at he <;> try (simp at he;done)
    rename_i xs tx ys ty
    simp only[VR] at hx hy
    obtain⟨A,n,c,rfl,hl1,hnc,ht1,hr1⟩:=hx
    obtain⟨B,m,d,rfl,hl2,hmd,ht2,hr2⟩:=hy
    refine fin (z4y (by simp) (by simp)) (by simp) (by simp) (by simp) (by simp) (by simp) ?_
    split at he
    ·split at he
     ·rename_i e1
      subst e1
      simp at he
      subst he
      obtain⟨rfl,_,_⟩:=ht1
      simp at hl2
      rcases hr2 with h0 | ⟨bb,oo,ee,rfl,_⟩
      ·omega
      ·exact j2r (d:=9999) hu (by simp)
     ·simp at he
    ·split at he
     ·rename_i e1
      subst e1
      simp at he
      subst he
      obtain⟨rfl,_,_⟩:=ht2
      simp at hl1
      rcases hr1 with h0 | ⟨bb,oo,ee,rfl,_⟩
      ·omega
      ·exact j2r (d:=9999) hu (by simp)
     ·simp at he
    ·split at he
     ·rename_i e1
      obtain⟨rfl,rfl⟩:=e1
      simp at he
      subst he
      obtain⟨rfl,_,_⟩:=ht1
      obtain⟨rfl,_,_⟩:=ht2
      exact j2r (d:=9999) hu (by simp)
     ·split at he
      ·rename_i e1
       obtain⟨rfl,rfl⟩:=e1
       simp at he
       subst he
       obtain⟨rfl,_,_⟩:=ht2
       simp only[TipR] at ht1
       cases A with
       | none=>exact absurd rfl ht1
       | some A=>exact j2r (d:=9999) hu (by simp)
      ·simp at he
    ·simp at he
   ·cases x <;> cases y <;> simp only[AV.eqv] at he <;> try (simp at he;done)
    all_goals
     simp at he
     subst he
     simp only[VR] at hx hy
     first
      | (obtain⟨_,_,_,rfl⟩:=hx)
      | (obtain⟨_,_,rfl,_⟩:=hx)
      | subst hx
     first
      | (obtain⟨_,_,_,rfl⟩:=hy)
      | (obtain⟨_,_,rfl,_⟩:=hy)
      | subst hy
     refine fin (z4y (by simp) (by simp)) (by simp) (by simp) (by simp) (by simp) (by simp) ?_
     exact w2j (d:=9999) hu (by simp)
   ·cases x <;> cases y <;> simp only[AV.eqv] at he <;> try (simp at he;done)
    all_goals
     simp at he
     subst he
     simp only[VR] at hx hy
     first
      | (obtain⟨_,_,_,rfl⟩:=hx)
      | subst hx
     first
      | (obtain⟨_,_,_,rfl⟩:=hy)
      | subst hy
     refine fin (z4y (by simp) (by simp)) (by simp) (by simp) (by simp) (by simp) (by simp) ?_
     exact w2k (d:=9999) hu (by simp)
   ·cases x <;> cases y <;> simp only[AV.eqv] at he <;> try (simp at he;done)
    all_goals
     simp at he
     subst he
     simp only[VR] at hx hy
     first
      | (obtain⟨_,rfl,_⟩:=hx)
      | subst hx
     first
      | (obtain⟨_,rfl,_⟩:=hy)
      | subst hy
     refine fin (z4y (by simp) (by simp)) (by simp) (by simp) (by simp) (by simp) (by simp) ?_
     first | exact v4o (d:=9999) hu | exact v4p (d:=9999) hu | exact v4q (d:=9999) hu
theorem y4p {op:UnOp} {x v:AV} {a:Value} (hx:VR G I x a) (hb:k4n op x=some v):∃ cv,(Op.unary op a).run P w= .ok cv w∧VR G I v cv:=by
 unfold k4n at hb
 split at hb
 ·simp at hb
  subst hb
  simp only[VR] at hx
  subst hx
  exact⟨_,by simp[Op.unary,Op.intArith];rfl,by simp[VR]⟩
 ·simp at hb
  subst hb
  simp only[VR] at hx
  subst hx
  exact⟨_,by simp[Op.unary];rfl,by simp[VR]⟩
 ·simp at hb
end
section
variable {P:Program} {G:Ghost} {I:Imm} {h:List AObj} {w:World} {gen slot:Nat}
def OR (G:Ghost) (I:Imm):Option AV→Option Value→Prop
 | none,none=>True
 | some x,some v=>VR G I x v
 | _,_=>False
theorem z5e {k:IntKind} {i:Int} {y:Nat} {code:BoundsCode} (h0:0≤i) (h1:i.toNat≤y):(Instr.sliceBound (.int k i) y code).run P w= .ok i.toNat w:=by
 have:0≤i∧i≤(y:Int):=⟨h0,by omega⟩
 simp[Instr.sliceBound,asIntOf,this]
theorem z7z {d n:Nat} {x:AV} {v:Value} (hv:VR G I x v) (hb:z4w d (some x)=some n):∃ k i,v= .int k i∧0≤i∧i.toNat=n:=by
 unfold z4w at hb
 split at hb
 ·rename_i heq;simp at heq
 ·rename_i heq
  split at hb
  ·simp at hb heq
   subst heq
   simp only[VR] at hv
   exact⟨_,_,hv, ‹_›,hb⟩
  ·simp at hb
 ·simp at hb
theorem z9k {isSlice:Bool} {len cap l r:Nat} {lo hi:Option AV} {clo chi:Option Value} (hlo:OR G I lo clo) (hhi:OR G I hi chi) (hl:z4w 0 lo=some l) (hr:z4w len hi=some r) (hlr:l≤r) (hrc:r≤cap):
  (Instr.sliceBounds isSlice len cap clo chi none).run P w= .ok (l,r,cap) w:=by
 unfold Instr.sliceBounds
 cases hi with
 | none=>
   cases chi with
   | some v=>exact hhi.elim
   | none=>
     simp[z4w] at hr
     subst hr
     cases lo with
     | none=>
       cases clo with
       | none=>simp[z4w] at hl;subst hl;simp
       | some v=>exact hlo.elim
     | some y=>
       cases clo with
       | none=>exact hlo.elim
       | some v=>
         obtain⟨k'',i'',rfl,h0'',h1''⟩:=z7z hlo hl
         have b3:=z5e (P:=P) (w:=w) (k:=k'') (code:= .sliceB) h0'' (show i''.toNat≤len by omega)
         rw[h1''] at b3
         simp[b3]
 | some x=>
   cases chi with
   | none=>exact hhi.elim
   | some v=>
     obtain⟨k',i',rfl,h0',h1'⟩:=z7z hhi hr
     have b2:=z5e (P:=P) (w:=w) (k:=k') (code:=if isSlice then .sliceAcap else .sliceAlen) h0' (show i'.toNat≤cap by omega)
     rw[h1'] at b2
     cases lo with
     | none=>
       cases clo with
       | none=>simp[z4w] at hl;subst hl;simp[b2]
       | some v=>exact hlo.elim
     | some y=>
       cases clo with
       | none=>exact hlo.elim
       | some v=>
         obtain⟨k'',i'',rfl,h0'',h1''⟩:=z7z hlo hl
         have b3:=z5e (P:=P) (w:=w) (k:=k'') (code:= .sliceB) h0'' (show i''.toNat≤r by omega)
         rw[h1''] at b3
         simp[b2,b3]
theorem q8k {len cap l r:Nat} {lo hi mx:Option AV} {clo chi cmx:Option Value} (hlo:OR G I lo clo) (hhi:OR G I hi chi) (hmx:OR G I mx cmx) (hl:z4w 0 lo=some l) (hr:z4w len hi=some r) (hm:z4w 0 mx=some r) (his:hi.isSome=true) (hms:mx.isSome=true) (hlr:l≤r) (hrc:r≤cap):
  (Instr.sliceBounds true len cap clo chi cmx).run P w= .ok (l,r,r) w:=by
 cases mx with
 | none=>simp at hms
 | some m=>
   cases cmx with
   | none=>exact hmx.elim
   | some cm=>
     obtain⟨k,i,rfl,h0,h1⟩:=z7z hmx hm
     cases hi with
     | none=>simp at his
     | some x=>
       cases chi with
       | none=>exact hhi.elim
       | some v=>
         obtain⟨k',i',rfl,h0',h1'⟩:=z7z hhi hr
         have b1:=z5e (P:=P) (w:=w) (k:=k) (code:= .slice3Acap) h0 (show i.toNat≤cap by omega)
         have b2:=z5e (P:=P) (w:=w) (k:=k') (code:= .slice3B) h0' (show i'.toNat≤r by omega)
         rw[h1] at b1
         rw[h1'] at b2
         unfold Instr.sliceBounds
         cases lo with
         | none=>
           cases clo with
           | none=>
             simp[z4w] at hl
             subst hl
             simp[b1,b2]
           | some v=>exact hlo.elim
         | some y=>
           cases clo with
           | none=>exact hlo.elim
           | some v=>
             obtain⟨k'',i'',rfl,h0'',h1''⟩:=z7z hlo hl
             have b3:=z5e (P:=P) (w:=w) (k:=k'') (code:= .slice3C) h0'' (show i''.toNat≤r by omega)
             rw[h1''] at b3
             simp[b1,b2,b3]
theorem k4q {xs:List AV} {b o e l r:Nat} (hr:RowI G I xs b o e):RowI G I ((xs.take r).drop l) b (o + l * e) e:=by
 refine z5u.2 fun k x hx=> ?_
 rw[d8] at hx
 have hlt:l + k < r:=by
  have:=(x9.1 hx).1
  simp at this
  omega
 rw[l8 hlt] at hx
 have:=z5u.1 hr (l + k) x hx
 rwa [k9,←Nat.add_assoc] at this
theorem j5z {esz:Nat} {xs:List AV} {b o e:Nat} (hh:z5m esz xs=true) (hn:xs≠[]) (hr:RowI G I xs b o e):e=esz:=by
 cases xs with
 | nil=>exact absurd rfl hn
 | cons x xs=>
   simp[z5m] at hh
   have:=(x6p.1 hr).1
   omega
theorem j8s {s:List Nat} {t:TypeId} {l r:Nat} {lo hi:Option AV} {clo chi:Option Value} (hs:∀ b∈s,b < 256) (hu:P.underlying t=some .string) (hlo:OR G I lo clo) (hhi:OR G I hi chi) (hl:z4w 0 lo=some l) (hr:z4w s.length hi=some r) (hlr:l≤r) (hrc:r≤s.length):
  ∃ cv,(Instr.sliceAt t (.string (z7r s)) clo chi none).run P w= .ok cv w∧VR G I (.str ((s.take r).drop l)) cv:=by
 have hb:=z9k (P:=P) (w:=w) (isSlice:=false) (cap:=s.length) hlo hhi hl hr hlr hrc
 refine⟨.string (z7r ((s.take r).drop l)), ?_,by simp only[VR];exact⟨trivial,fun b hb=>hs b (d6 (List.mem_of_mem_drop hb))⟩⟩
 have hx:(z7r s).extract l r=z7r ((s.take r).drop l):=by
  apply ByteArray.ext
  apply Array.ext'
  simp[z7r,ByteArray.data_extract,List.drop_take,List.map_take,List.map_drop]
 simp only[Instr.sliceAt,Sem.run_bind,run_underlying hu,Result.andThen]
 simp[Instr.slice,run_underlying hu,z4a,hb,hx]
theorem j2s {xs:List AV} {tp tp':Tip} {t e:TypeId} {sz l r m:Nat} {a:Value} {clo chi cmx:Option Value} (hx:VR G I (.sl xs tp) a) (hu:P.underlying t=some (.slice e)) (hsz:sizeP P e=some sz) (hh:z5m sz xs=true)
  (hlr:l≤r) (hrx:r≤xs.length)
  (hb:∀ c,xs.length≤c→(Instr.sliceBounds true xs.length c clo chi cmx).run P w= .ok (l,r,if m=0 then c else r) w)
  (ht:(m=0∧tp'=if r=xs.length then tp else .no)∨(m≠0∧tp'= .full)):
  ∃ cv,(Instr.sliceAt t a clo chi cmx).run P w= .ok cv w∧VR G I (.sl ((xs.take r).drop l) tp') cv:=by
 simp only[VR] at hx
 obtain⟨A,n,c,rfl,rfl,hnc,htip,hrow⟩:=hx
 have hs:(sizeOf e).run P w= .ok sz w:=by
  unfold sizeP at hsz
  cases hi:P.info? e with
  | none=>simp[hi] at hsz
  | some i=>simp[hi] at hsz;simp[sizeOf,typeInfo,hi,hsz]
 have hrun:(Instr.sliceAt t (.slice A xs.length c) clo chi cmx).run P w= .ok (.slice (if (if m=0 then c else r)=l then A else A.map (·.add (l * sz))) (r - l) ((if m=0 then c else r) - l)) w:=by
  simp only[Instr.sliceAt,Sem.run_bind,run_underlying hu,Result.andThen]
  simp only[Instr.slice,Sem.run_bind,run_underlying hu,Result.andThen,hb c hnc,hs,Sem.run_pure]
 refine⟨_,hrun, ?_⟩
 simp only[VR]
 refine⟨(if (if m=0 then c else r)=l then A else A.map (·.add (l * sz))),r - l,(if m=0 then c else r) - l,rfl,by simp;omega,by split <;> omega, ?_, ?_⟩
 ·clear hrow hrun
  rcases ht with ⟨hm,rfl⟩ | ⟨hm,rfl⟩
  ·rw[if_pos hm]
   split
   ·rename_i hr
    cases tp with
    | no=>trivial
    | nn=>
      simp only[TipR] at htip⊢
      cases A with
      | none=>exact absurd rfl htip
      | some A=>split <;> simp
    | full=>
      simp only[TipR] at htip⊢
      simp
      omega
    | nil=>
      simp only[TipR] at htip⊢
      obtain⟨rfl,h2,rfl⟩:=htip
      simp
      omega
    | «at» s g=>
      simp only[TipR] at htip⊢
      obtain⟨i,h1,h2,h3,h4,h5⟩:=htip
      refine⟨i,h1,h2,h3,fun x hx=>h4 x (d6 (List.mem_of_mem_drop hx)), ?_⟩
      have hlen:((xs.take r).drop l).length=xs.length - l:=by simp;omega
      rw[hlen]
      rcases h5 with h5 | ⟨h5,o,rfl,h6,h7⟩
      ·exact .inl (by omega)
      ·by_cases hcl:c=l
       ·exact .inl (by omega)
       ·refine .inr ⟨h5,o + l * i.esz, ?_, ?_, ?_⟩
        ·rw[if_neg hcl]
         simp only[Option.map_some,Addr.add_lit]
         by_cases hl0:l=0
         ·subst hl0;simp
         ·have:xs≠[]:=fun e=>by subst e;simp at hrx;omega
          obtain⟨x,xs',rfl⟩:=List.exists_cons_of_ne_nil this
          have he:=h4 x (by simp)
          simp[z5m] at hh
          rw[←hh,he]
        ·have:xs.length * i.esz=l * i.esz + (xs.length - l) * i.esz:=by rw[←k9];congr 1;omega
         omega
        ·have:c * i.esz=l * i.esz + (c - l) * i.esz:=by rw[←k9];congr 1;omega
         omega
   ·trivial
  ·rw[if_neg hm]
   simp only[TipR]
   simp
   omega
 ·rcases hrow with h0 | ⟨b,o,e',rfl,hpos,hrow⟩
  ·exact .inl (by omega)
  ·by_cases hz:r - l=0
   ·exact .inl hz
   ·refine .inr ⟨b,o + l * e',e', ?_,hpos,k4q hrow⟩
    have hne:xs≠[]:=fun e=>by subst e;simp at hrx;omega
    have he:=j5z hh hne hrow
    subst he
    have hcl:¬ (if m=0 then c else r)=l:=by split <;> omega
    rw[if_neg hcl]
    simp[Addr.add_lit]
theorem w2m {x v:AV} {a:Value} {t ty:TypeId} {l:LenTy} (rel:Rel G I h w) (hx:VR G I x a)
  (hu:(P.underlying t=some .string∧l= .str)∨(∃ e,P.underlying t=some (.slice e)∧l= .sl)∨(∃ k e,P.underlying t=some (.map k e)∧l= .mp)∨(∃ n e,P.underlying t=some (.array n e)∧l= .arr n)∨
   (∃ p n e,P.underlying t=some (.pointer p)∧P.underlying p=some (.array n e)∧l= .arr n)) (hv:z9p h l x=some v):
  ∃ cv,(Builtin.len_ #[t] ty #[a]).run P w= .ok cv w∧VR G I v cv:=by
 rcases hu with ⟨hu,rfl⟩ | ⟨e,hu,rfl⟩ | ⟨k,e,hu,rfl⟩ | ⟨n,e,hu,rfl⟩ | ⟨p,n,e,hu,hu2,rfl⟩
 ·cases x <;> simp[z9p] at hv
  rename_i s
  subst hv
  simp only[VR] at hx
  obtain⟨rfl,_⟩:=hx
  exact⟨.int .i64 s.length,by simp[Builtin.len_,run_underlying hu,goInt,z4a],by simp[VR]⟩
 ·cases x <;> simp[z9p] at hv
  ·rename_i xs tp
   subst hv
   simp only[VR] at hx
   obtain⟨A,n,c,rfl,rfl,_⟩:=hx
   exact⟨.int .i64 xs.length,by simp[Builtin.len_,run_underlying hu,goInt],by simp[VR]⟩
  ·rename_i s g o l
   subst hv
   simp only[VR] at hx
   obtain⟨i,A,c,_,_,rfl,_⟩:=hx
   exact⟨.int .i64 l,by simp[Builtin.len_,run_underlying hu,goInt],by simp[VR]⟩
 ·cases x <;> simp only[z9p,x5,Option.some.injEq] at hv <;> try (simp at hv;done)
  ·rename_i s g
   obtain⟨es,hes,rfl⟩:=hv
   simp only[VR] at hx
   obtain⟨i,hi,_,rfl⟩:=hx
   obtain⟨i',ents,clk,hi',_,hw,hm⟩:=rel.obj s _ (x3y hes)
   obtain rfl:i=i':=by rw[hi] at hi';simpa using hi'
   have hlen:∀ {xs:List (AV×AV)} {ms:List MapEntry},MapR G I xs ms→ms.length=xs.length:=by
    intro xs
    induction xs with
    | nil=>intro ms hm;cases hm;rfl
    | cons x xs ih=>
      intro ms hm
      obtain⟨e,rest,rfl,_,_,h3⟩:=hm
      simp[ih h3]
   refine⟨.int .i64 es.length, ?_,by simp[VR]⟩
   have:=hlen hm
   simp at this
   simp[Builtin.len_,run_underlying hu,goInt,getObj,Sem.run,hw,this]
  ·subst hv
   simp only[VR] at hx
   subst hx
   exact⟨.int .i64 0,by simp[Builtin.len_,run_underlying hu,goInt],by simp[VR]⟩
 ·simp[z9p] at hv
  subst hv
  exact⟨.int .i64 n,by simp[Builtin.len_,run_underlying hu,goInt],by simp[VR]⟩
 ·simp[z9p] at hv
  subst hv
  exact⟨.int .i64 n,by simp[Builtin.len_,run_underlying hu,run_underlying hu2,goInt],by simp[VR]⟩
theorem w2n {x v:AV} {a:Value} {t ty e:TypeId} (hx:VR G I x a) (hu:P.underlying t=some (.slice e)) (hv:z9p h .cap x=some v):
  ∃ cv,(Builtin.cap_ #[t] ty #[a]).run P w= .ok cv w∧VR G I v cv:=by
 cases x <;> simp[z9p] at hv
 rename_i xs tp
 obtain⟨ht,rfl⟩:=hv
 simp only[VR] at hx
 obtain⟨A,n,c,rfl,rfl,_,hc,_⟩:=hx
 have:c=xs.length:=by
  rcases ht with rfl | rfl
  ·simp only[TipR] at hc
   omega
  ·exact hc
 subst this
 exact⟨.int .i64 xs.length,by simp[Builtin.cap_,run_underlying hu,goInt],by simp[VR]⟩
end
end Go.Proofs.YtkollgjffkdliaaGreatDoor.Am
