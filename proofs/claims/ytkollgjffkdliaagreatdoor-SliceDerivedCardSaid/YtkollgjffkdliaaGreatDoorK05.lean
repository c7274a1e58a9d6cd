/- Calls of the abstract machine: the heap that a call leaves The abstract machine's code stands for the model's: operations one after the other The abstract machine's code stands for the model's: region -/
import Derived.OrdersIn
import Derived.LoopNIn
import Derived.RangeFuncLeaves
import Derived.RangeFuncRecord
import Derived.RangeFuncSeq
import Derived.Below
import Derived.Laws.World
import Derived.Test.YtkollgjffkdliaaGreatDoorK04
open Bool renaming and_eq_true → y4
open List renaming append_nil → w9,getElem?_append → n6,getElem?_drop → d8,getElem?_eq_getElem → v9,length_append → k7,length_cons → v5,length_nil → u3,length_set → y5,mem_append → x4,replicate → x3
open Nat renaming le_refl → x7,le_trans → j1,zero_add → k6
open Option renaming getD_some → d4,map_eq_some_iff → x5,map_some → j5
set_option linter.all false
namespace Go.Proofs.YtkollgjffkdliaaGreatDoor.Am
open Go
set_option maxRecDepth 100000
section
variable {P:Program} {G:Ghost} {I:Imm} {h:List AObj} {w:World}
structure Left (T:List Nat) (n clk:Nat) (G:Ghost) (I:Imm) (h:List AObj) (w:World) (I1:Imm) (hf:List AObj) (G':Ghost) (I':Imm) (s:List AObj) (I2:Imm) (hr:List AObj) (w':World):Prop where
 frz:Frozen h hf
 rel1:Rel G I1 hf w
 le1:ILe I I1
 new1:NoNew G h I I1
 ran:Ran h.length clk G I1 (maskFrom T 0 hf++x3 n .dead) w G' I' s w'
 len:h.length≤s.length
 frz2:Frozen s hr
 rel2:Rel G' I2 hr w'
 le2:ILe I' I2
 new2:NoNew G' s I' I2
variable {T:List Nat} {n clk:Nat} {I1 I' I2:Imm} {hf s hr:List AObj} {G':Ghost} {w':World}
theorem x7j {i:Nat} {o:AObj} (hi:(maskFrom T 0 hf++x3 n .dead)[i]? =some o):o= .dead∨(T.contains i=true∧hf[i]? =some o):=by
 rw[n6] at hi
 split at hi
 ·rw[z9b] at hi
  simp only[k6,x5] at hi
  obtain⟨o',h1,h2⟩:=hi
  split at h2
  ·rename_i ht
   subst h2
   exact .inr ⟨ht,h1⟩
  ·exact .inl h2.symm
 ·left
  have:=List.mem_of_getElem? hi
  exact (List.mem_replicate.1 this).2
theorem k5d (rel1:Rel G I1 hf w):Rel G I1 (maskFrom T 0 hf++x3 n .dead) w:=
 rel1.part fun _ _ hi=>(x7j hi).imp id And.right
namespace Left
variable (l:Left T n clk G I h w I1 hf G' I' s I2 hr w')
include l
theorem maskOwner {i b:Nat} {o:AObj} (hi:(maskFrom T 0 hf++x3 n .dead)[i]? =some o) (hb:Am.own G o=some b):T.contains i=true∧hf[i]? =some o:=by
 have _:=l
 rcases x7j hi with rfl | h
 ·simp[Am.own] at hb
 ·exact h
theorem hOwner {i b:Nat} {o:AObj} (hi:hf[i]? =some o) (hb:Am.own G o=some b):∃ (j:Nat) (x:AObj),h[j]? =some x∧Am.own G x=some b:=z8k l.frz i o b hi hb
theorem kept {i b:Nat} {o:AObj} (hi:hf[i]? =some o) (ht:T.contains i=false) (hb:Am.own G o=some b):
  b < w.heap.size∧(∀ (j:Nat) x,s[j]? =some x→Am.own G' x≠some b)∧w'.heap[b]? =w.heap[b]? ∧∀ o v,I2 b o=some v→I1 b o=some v:=by
 have hlt:=z9q (l.rel1.obj i o hi) hb
 have hm:∀ (j:Nat) x,(maskFrom T 0 hf++x3 n .dead)[j]? =some x→Am.own G x≠some b:=fun j x hj hx=>by
  obtain⟨h1,h2⟩:=l.maskOwner hj hx
  have:=l.rel1.inj i j o x b hi h2 hb hx
  subst this
  rw[ht] at h1
  simp at h1
 have hs:∀ (j:Nat) x,s[j]? =some x→Am.own G' x≠some b:=fun j x hj hx=>by
  rcases l.ran.own j x b hj hx with ⟨k,y,hk,hy⟩ | hge
  ·exact hm k y hk hy
  ·omega
 exact⟨hlt,hs,l.ran.fr.kept b hlt hm,fun o v hv=>l.ran.ifr b hlt hm o v (l.new2 b hs o v hv)⟩
theorem srcOwner {i b:Nat} {o:AObj} (hi:hr[i]? =some o) (hb:Am.own G' o=some b):(∃ (j:Nat) (x:AObj),s[j]? =some x∧Am.own G' x=some b)∧((∃ (j:Nat) (x:AObj),h[j]? =some x∧Am.own G x=some b)∨w.heap.size≤b):=by
 obtain⟨j,x,h1,h2⟩:=z8k l.frz2 i o b hi hb
 refine⟨⟨j,x,h1,h2⟩, ?_⟩
 rcases l.ran.own j x b h1 h2 with ⟨k,y,hk,hy⟩ | hge
 ·obtain⟨_,h3⟩:=l.maskOwner hk hy
  exact .inl (l.hOwner h3 hy)
 ·exact .inr hge
theorem merge_rel {Gx:Ghost} {mm:List AObj} (hGx:GLe G Gx)
  (hmm:∀ (i:Nat) o,mm[i]? =some o→(T.contains i=false∧hf[i]? =some o)∨(hr[i]? =some o∧(i < h.length→T.contains i=true)∧ObjR Gx I2 w' i o∧Am.own Gx o=Am.own G' o)):
  Rel Gx I2 mm w'∧OwnLe G h w Gx mm:=by
 have hext:∀ (i:Nat) o,hf[i]? =some o→Am.own Gx o=Am.own G o:=fun i o hi=>q0h hGx (l.rel1.obj i o hi)
 refine⟨⟨l.rel2.imm,fun i o hi=> ?_,fun i j oi oj b hi hj h1 h2=> ?_⟩,fun i o b hi hb=> ?_⟩
 ·rcases hmm i o hi with ⟨ht,h1⟩ | ⟨_,_,h1,_⟩
  ·exact (l.rel1.obj i o h1).shift hGx (l.ran.ile.trans l.le2) (fun b hb=>(l.kept h1 ht hb).2.2.1) fun b hb o v hv=>(l.kept h1 ht hb).2.2.2 o v hv
  ·exact h1
 ·have cross:∀ {i j:Nat} {oi oj:AObj},T.contains i=false→hf[i]? =some oi→hr[j]? =some oj→Am.own Gx oi=some b→Am.own Gx oj=some b→Am.own Gx oj=Am.own G' oj→False:=fun ht g1 g2 g3 g4 g5=>by
   rw[hext _ _ g1] at g3
   rw[g5] at g4
   obtain⟨⟨k,x,hk,hx⟩,_⟩:=l.srcOwner g2 g4
   exact (l.kept g1 ht g3).2.1 k x hk hx
  rcases hmm i oi hi with ⟨ht1,g1⟩ | ⟨g1,_,_,e1⟩ <;> rcases hmm j oj hj with ⟨ht2,g2⟩ | ⟨g2,_,_,e2⟩
  ·rw[hext _ _ g1] at h1
   rw[hext _ _ g2] at h2
   exact l.rel1.inj i j oi oj b g1 g2 h1 h2
  ·exact (cross ht1 g1 g2 h1 h2 e2).elim
  ·exact (cross ht2 g2 g1 h2 h1 e1).elim
  ·rw[e1] at h1
   rw[e2] at h2
   exact l.rel2.inj i j oi oj b g1 g2 h1 h2
 ·rcases hmm i o hi with ⟨_,g1⟩ | ⟨g1,_,_,e1⟩
  ·rw[hext _ _ g1] at hb
   exact .inl (l.hOwner g1 hb)
  ·rw[e1] at hb
   exact (l.srcOwner g1 hb).2
theorem notMask {b:Nat} (hn:∀ (i:Nat) o,h[i]? =some o→Am.own G o≠some b) (i:Nat) (o:AObj) (hi:(maskFrom T 0 hf++x3 n .dead)[i]? =some o):Am.own G o≠some b:=fun hb=>by
 obtain⟨_,h1⟩:=l.maskOwner hi hb
 obtain⟨j,x,h2,h3⟩:=l.hOwner h1 hb
 exact hn j x h2 h3
theorem fr:Fr G h w w':=
 ⟨l.ran.fr.os,l.ran.fr.tape,l.ran.fr.output,l.ran.fr.size,fun b hb hn=>l.ran.fr.kept b hb (l.notMask hn)⟩
theorem ifr:IFr G h w I I2:=fun b hb hn o v hv=>by
 refine l.new1 b hn o v (l.ran.ifr b hb (l.notMask hn) o v (l.new2 b (fun i x hi hx=> ?_) o v hv))
 rcases l.ran.own i x b hi hx with ⟨k,y,hk,hy⟩ | hge
 ·exact l.notMask hn k y hk hy
 ·omega
theorem lenf:hf.length=h.length:=l.frz.1
theorem lenr:h.length≤hr.length:=by rw[l.frz2.1];exact l.len
theorem merged {i:Nat} {o:AObj} (hi:(z0n T 0 hf hr)[i]? =some o):i < h.length∧((T.contains i=false∧hf[i]? =some o)∨(T.contains i=true∧hr[i]? =some o)):=by
 have hlen:hf.length≤hr.length:=by rw[l.lenf];exact l.lenr
 have hlt:i < hf.length:=by
  rw[←z5v (T:=T) (k:=0) hlen]
  exact (List.getElem?_eq_some_iff.1 hi).1
 rw[q4l hlen hlt,k6] at hi
 refine⟨by rw[←l.lenf];exact hlt, ?_⟩
 cases ht:T.contains i with
 | true=>rw[ht] at hi;exact .inr ⟨rfl,by simpa using hi⟩
 | false=>rw[ht] at hi;exact .inl ⟨rfl,by simpa using hi⟩
theorem all:Ran h.length clk G I h w G' I2 (z0n T 0 hf hr++hr.drop h.length) w':=by
 have hlen:hf.length≤hr.length:=by rw[l.lenf];exact l.lenr
 obtain⟨h1,h2⟩:=l.merge_rel (Gx:=G') (mm:=z0n T 0 hf hr++hr.drop h.length) l.ran.gle fun i o hi=>by
  rw[n6,z5v hlen,l.lenf] at hi
  split at hi
  ·rename_i hlt
   rcases (l.merged hi).2 with ⟨g1,g2⟩ | ⟨g1,g2⟩
   ·exact .inl ⟨g1,g2⟩
   ·exact .inr ⟨g2,fun _=>g1,l.rel2.obj i o g2,rfl⟩
  ·rename_i hge
   rw[d8,show h.length + (i - h.length)=i by omega] at hi
   exact .inr ⟨hi,fun hlt=>absurd hlt hge,l.rel2.obj i o hi,rfl⟩
 exact⟨h1,l.ran.gle,l.le1.trans (l.ran.ile.trans l.le2),l.ran.slots,h2,l.fr,l.ifr⟩
theorem cut {v:AV} {cv:Value} (hfresh:∀ g,clk≤g→G g=none) (hv:VR G' I2 v cv)
  (hids:∀ q∈v.ids++(T.map fun i=>((hr[i]?).map AObj.ids).getD []).flatten,q < h.length):
  ∃ G'',VR G'' I2 v cv∧Ran h.length clk G I h w G'' I2 (z0n T 0 hf hr) w'∧∀ g,clk≤g→G'' g=none:=by
 let G'':Ghost:=fun g=>if clk≤g then none else G' g
 have hkeep:j0b G' G'' h.length:=fun g i hg hi=>by
  show (if clk≤g then none else G' g)=some i
  cases hgg:G g with
  | none=>
    have:=(l.ran.slots g i hg hgg).2
    omega
  | some j=>
    have:¬ clk≤g:=fun hc=>by rw[hfresh g hc] at hgg;simp at hgg
    rw[if_neg this]
    exact hg
 have hG:GLe G G'':=fun g i hg=>by
  show (if clk≤g then none else G' g)=some i
  have:¬ clk≤g:=fun hc=>by rw[hfresh g hc] at hg;simp at hg
  rw[if_neg this]
  exact l.ran.gle g i hg
 have ownKeep:∀ (i:Nat) (o:AObj),ObjR G' I2 w' i o→i < h.length→Am.own G'' o=Am.own G' o:=fun i o ho hi=>by
  cases o with
  | dead=>rfl
  | blk g es row grow fz=>
    obtain⟨gi,_,_,g1,g2,_⟩:=ho
    simp only[Am.own]
    rw[g1,hkeep g gi g1 (by omega)]
  | tip g e=>
    obtain⟨gi,g1,g2,_⟩:=ho
    simp only[Am.own]
    rw[g1,hkeep g gi g1 (by omega)]
  | map g es=>
    obtain⟨gi,_,_,g1,g2,_⟩:=ho
    simp only[Am.own]
    rw[g1,hkeep g gi g1 (by omega)]
 refine⟨G'',VR.keep hkeep (fun q hq=>hids q (x4.2 (.inl hq))) hv, ?_,fun g hg=> ?_⟩
 ·obtain⟨h1,h2⟩:=l.merge_rel (Gx:=G'') (mm:=z0n T 0 hf hr) hG fun i o hi=>by
   obtain⟨hlt,hc⟩:=l.merged hi
   rcases hc with ⟨g1,g2⟩ | ⟨g1,g2⟩
   ·exact .inl ⟨g1,g2⟩
   ·have hob:=l.rel2.obj i o g2
    refine .inr ⟨g2,fun _=>g1,hob.keep hkeep hlt (fun q hq=>hids q (x4.2 (.inr ?_))),ownKeep i o hob hlt⟩
    rw[List.mem_flatten]
    exact⟨o.ids,List.mem_map.2 ⟨i,by simpa using g1,by simp[g2]⟩,hq⟩
  refine⟨h1,hG,l.le1.trans (l.ran.ile.trans l.le2),fun g i hg hn=> ?_,h2,l.fr,l.ifr⟩
  have hg:(if clk≤g then none else G' g)=some i:=hg
  split at hg
  ·simp at hg
  ·exact l.ran.slots g i hg hn
 ·show (if clk≤g then none else G' g)=none
  rw[if_pos hg]
end Left
end
section
variable {P:Program} {G:Ghost} {I:Imm} {h:List AObj} {w:World}
def CallRes (P:Program) (f:Nat) (cargs:Array Value) (w:World) (post:Value→World→Prop):Prop:=
 ∀ (o:Oper) (a:Act) (next:Act→World→Prop) (Q:Exit→Act→World→Prop),(∀ cv w',post cv w'→next (a.put o.dst cv) w')→o.upon P a next Q ((callFunc f cargs).run P w)
def Fresh (G:Ghost) (clk:Nat):Prop:=∀ g,clk≤g→G g=none
def q7r (G:Ghost) (I:Imm) (h:List AObj) (w:World) (clk:Nat) (v:AV) (h':List AObj) (clk':Nat) (cv:Value) (w':World):Prop:=
 ∃ G' I',VR G' I' v cv∧Ran h.length clk G I h w G' I' h' w'∧Fresh G' clk'∧clk≤clk'∧h.length≤h'.length
def q4m (P:Program) (C:Caller):Prop:=
 ∀ f args h clk v h' clk',C f args h clk=some (v,h',clk')→∀ G I w (cargs:Array Value),VRL G I args cargs.toList→Rel G I h w→Fresh G clk→CallRes P (real f) cargs w (q7r G I h w clk v h' clk')
def TmpR (G:Ghost) (I:Imm) (ts:Tmps) (tmps:Array Value):Prop:=∀ t,VR G I (ts t) (tmps.getD t undef)
theorem TmpR.mono {G':Ghost} {I':Imm} (hG:GLe G G') (hI:ILe I I') {ts:Tmps} {tmps:Array Value} (ht:TmpR G I ts tmps):TmpR G' I' ts tmps:=fun t=>VR.mono hG hI (ht t)
theorem TmpR.eval {ts:Tmps} {a:Act} (ht:TmpR G I ts a.tmps):TR G I ts a.eval:=⟨fun t=>ht t,fun _=>rfl,fun _=>rfl⟩
theorem TmpR.put {ts:Tmps} {a:Act} {dst:Option Nat} {v:AV} {cv:Value} (ht:TmpR G I ts a.tmps) (hv:VR G I v cv) (hd:dst.all (· < a.tmps.size)=true):TmpR G I (z8g ts dst v) (a.put dst cv).tmps:=by
 cases dst with
 | none=>exact ht
 | some d=>
   have hd:d < a.tmps.size:=by simpa using hd
   intro t
   simp only[z8g,upd,Act.put]
   by_cases h:t=d
   ·subst h
    simp[hd,hv]
   ·rw[if_neg h]
    have:=ht t
    simpa [Array.getElem?_setIfInBounds_ne (Ne.symm h)] using this
theorem z9c {a:Act} {dst:Option Nat} {cv:Value}:(a.put dst cv).tmps.size=a.tmps.size:=by
 cases dst <;> simp[Act.put]
theorem q2l {a:Act} {dst:Option Nat} {cv:Value}:(a.put dst cv).defers=a.defers:=by
 cases dst <;> rfl
def Marks (B:Nat) (ds:List Deferred) (w:World):Prop:=(∀ d∈ds,∃ r,d.target= .collected r∧B≤r∧w.heap[r]? =some (.deferred (some [])))∧ds.Pairwise fun d e=>d.target≠e.target
theorem x7k {s b:Nat} {o:AObj} (hob:ObjR G I w s o) (ho:own G o=some b):∀ x,w.heap[b]? ≠some (.deferred x):=by
 intro x hx
 cases o with
 | dead=>simp[own] at ho
 | blk g es row grow fz=>
   obtain⟨i,cs,t,h1,_,h3,_⟩:=hob
   simp[own,h1] at ho
   subst ho
   rw[h3] at hx
   simp at hx
 | tip g e=>
   obtain⟨i,h1,_,_,h3⟩:=hob
   simp[own,h1] at ho
   obtain⟨hr,rfl⟩:=ho
   obtain⟨cs,t,h4,_⟩:=h3 hr
   rw[h4] at hx
   simp at hx
 | map g es=>
   obtain⟨i,ents,clk,h1,_,h3,_⟩:=hob
   simp[own,h1] at ho
   subst ho
   rw[h3] at hx
   simp at hx
theorem Marks.keep {B:Nat} {ds:List Deferred} {w':World} (hm:Marks B ds w) (rel:Rel G I h w) (hfr:Fr G h w w'):Marks B ds w':=⟨fun d hd=>by
 obtain⟨r,h1,h0,h2⟩:=hm.1 d hd
 refine⟨r,h1,h0, ?_⟩
 rw[hfr.kept r (Array.getElem?_eq_some_iff.1 h2).1 fun i o hi ho=>x7k (rel.obj i o hi) ho _ h2]
 exact h2,hm.2⟩
structure Live (nt B:Nat) (G:Ghost) (I:Imm) (s:St) (a:Act) (w:World):Prop where
 bnd:B≤w.heap.size
 dfr:Marks B a.defers w
 size:nt≤a.tmps.size
 tmps:TmpR G I s.ts a.tmps
 rel:Rel G I s.h w
theorem z2l (l:List (Nat×Nat)) (h:List AObj):(freezeAll h l).length=h.length:=(z2d h l).1
theorem q7l {h h':List AObj} {slot gen esz bytes:Nat} {mu:Bool} {x y v:AV} (ha:z1a h slot gen esz bytes mu x y=some (v,h')):h'.length=h.length:=by
 unfold z1a at ha
 repeat' split at ha
 all_goals first
  | (simp at ha;done)
  | (simp only[Option.some.injEq,Prod.mk.injEq] at ha;obtain⟨_,rfl⟩:=ha;simp)
theorem z5y {h h':List AObj} {base gen:Nat} {ts:Tmps} {a:AOp} {v:AV} (hp:prim h base gen ts a=some (v,h')):h'.length=h.length:=by
 cases a with
 | append k esz by_ mu x y=>exact q7l hp
 | store sz x y=>
   simp only[prim] at hp
   repeat' split at hp
   all_goals first
    | (simp at hp;done)
    | skip
   all_goals
    simp only[x5,Prod.mk.injEq] at hp
    obtain⟨ww,hsp,hvv,rfl⟩:=hp
    clear hsp hvv
    simp only[y5]
    rename_i hq _
    first
     | (simp at hq;obtain⟨_,rfl⟩:=hq;rfl)
     | (split at hq
        ·simp only[pub,x5,Prod.mk.injEq] at hq
         obtain⟨_,_,_,rfl⟩:=hq
         exact z2l _ _
        ·simp at hq
         obtain⟨_,rfl⟩:=hq
         rfl)
 | mapUpdate t m k x=>
   simp only[prim] at hp
   repeat' split at hp
   all_goals first
    | (simp at hp;done)
    | skip
   all_goals
    simp only[x5,Prod.mk.injEq] at hp
    obtain⟨ww,hsp,hvv,rfl⟩:=hp
    clear hsp hvv
    simp only[y5]
    rename_i hq _
    simp only[pub,x5,Prod.mk.injEq] at hq
    obtain⟨_,_,_,rfl⟩:=hq
    exact z2l _ _
 | buildSlice k mu z n ps=>
   simp only[prim] at hp
   repeat' split at hp
   all_goals first
    | (simp at hp;done)
    | skip
   all_goals
    simp only[x5] at hp
    obtain⟨_,_,hp⟩:=hp
    simp at hp
    obtain⟨_,rfl⟩:=hp
    simp[z2l]
 | _=>
   simp only[prim] at hp
   repeat' split at hp
   all_goals first
    | (simp at hp;done)
    | (simp only[Option.some.injEq,Prod.mk.injEq] at hp;obtain⟨_,rfl⟩:=hp;simp)
    | (simp only[x5,Prod.mk.injEq] at hp;obtain⟨_,_,_,rfl⟩:=hp;rfl)
    | (simp only[Option.bind_eq_some_iff,x5,Prod.mk.injEq] at hp;obtain⟨_,_,_,_,_,rfl⟩:=hp;rfl)
theorem x1o {b:Builtin} {args:List Operand} {tys:List TypeId} {n:Nat} {mu:Bool} {a:AOp} (hc:q4g P b args tys n mu=some a):a.plain=true:=by
 unfold q4g at hc
 repeat' split at hc
 all_goals first
  | (simp at hc;done)
  | (simp only[Option.some.injEq] at hc;subst hc;rfl)
  | (simp only[x5] at hc;obtain⟨_,_,rfl⟩:=hc;rfl)
theorem j9b {back:Nat→Option Nat} {n:Nat} {mu:Bool} {op:Op} {a:AOp} (hn:∀ c,op≠ .call c) (hc:cOp P back n mu op=some a):a.plain=true:=by
 cases op with
 | call c=>exact absurd rfl (hn c)
 | makeFunc f x y=>
   cases f <;> simp only[cOp] at hc <;> (repeat' split at hc) <;> first
    | (simp at hc;done)
    | (simp only[x5] at hc;obtain⟨_,_,rfl⟩:=hc;rfl)
 | _=>
   simp only[cOp] at hc
   repeat' split at hc
   all_goals first
    | (simp at hc;done)
    | (simp only[Option.some.injEq] at hc;subst hc;rfl)
    | (simp only[x5] at hc;obtain⟨_,_,rfl⟩:=hc;rfl)
theorem j9c {al:Nat→Nat} {a:AOp} (h:(a.alt al).plain=true):a.alt al=a:=by
 cases a <;> first | rfl | simp[AOp.alt,AOp.plain] at h
theorem q6x {al:Nat→Nat} {a:AOp} (h:a.plain=true):a.alt al=a:=by
 cases a <;> first | rfl | simp[AOp.plain] at h
structure Made (P:Program) (back:Nat→Option Nat) (nt:Nat) (mu:Nat→Bool) (al:Nat→Nat) (ops:List Oper) (n:Nat) (o:Oper) (ao:AOper):Prop where
 dst:ao.dst=o.dst
 op:ao.op=((cOp P back n (mu n) o.op).getD .bad).alt al
 guard:cGuard ops o.guard=some ao.guard
 room:o.dst.all (· < nt)=true
theorem q8t {ops:Array Oper} {o:Oper} {ao:AOper} {ts:Tmps} {a:Act} {b:Bool} (hg:cGuard ops.toList o.guard=some ao.guard) (ht:TmpR G I ts a.tmps) (hnt:∀ (j t:Nat),x9l ops.toList j=some t→t < a.tmps.size) (hw:z5n ts ao.guard=some b):
  Region.wanted o (yielded ops a.tmps)=b:=by
 unfold Region.wanted
 cases hgu:o.guard with
 | none=>
   rw[hgu] at hg
   simp[cGuard] at hg
   rw[←hg] at hw
   simpa [z5n] using hw
 | some g=>
   obtain⟨j,want⟩:=g
   rw[hgu] at hg
   simp only[cGuard,x5] at hg
   obtain⟨t,h1,h2⟩:=hg
   rw[←h2] at hw
   have hlt:=hnt j t h1
   have hv:=ht t
   have hget:a.tmps.getD t undef=a.tmps[t]:=by simp[hlt]
   rw[hget] at hv
   have hy:yielded ops a.tmps j=match a.tmps[t] with | .bool b=>some b | _=>none:=by
    unfold yielded
    have:(ops[j]?).bind (·.dst)=some t:=by
     unfold x9l at h1
     simpa using h1
    rw[this]
    simp only[Option.bind_some]
    rw[Array.getElem?_eq_getElem hlt]
    cases a.tmps[t] <;> rfl
   simp only[hy]
   simp only[z5n] at hw
   split at hw
   ·rename_i x heq
    rw[heq] at hv
    simp only[VR] at hv
    rw[hv]
    simp at hw
    simpa using hw
   ·rename_i heq
    rw[heq] at hv
    simp only[VR,VRL] at hv
    obtain⟨vs,hv,hn⟩:=hv
    rw[hv]
    simp at hw
    subst hw
    simp
   ·simp at hw
def w2c (U:Nat→Prop) (G:Ghost) (clk:Nat):Prop:=∀ g,U g∨clk≤g→G g=none
theorem v4w {C:Caller} {back:Nat→Option Nat} {nt B base n lo gen:Nat} {mu:Nat→Bool} {al:Nat→Nat} {ops:Array Oper} {o:Oper} {ao:AOper} {s s':St} {a:Act} {U:Nat→Prop} (hC:q4m P C)
  (hBack:∀ f k,back f=some k→∀ G I w x cx,(z6v x).isSome=true→VR G I x cx→(∀ b o v,I b o=some v→w.cell? ⟨b,o,none⟩=some v)→CallRes P f #[cx] w fun cv w'=>∃ I',ILe I I'∧VR G I' (.bwd k x) cv∧(∀ (b:Nat) (y:Obj),w.heap[b]? =some y→w'.heap[b]? =some y)∧w'.os=w.os∧w'.tape=w.tape∧w'.output=w.output∧w.heap.size≤w'.heap.size∧
   ∀ b o v,I' b o=some v→I b o=some v∨(w.heap.size≤b∧w'.cell? ⟨b,o,none⟩=some v))
  (hm:Made P back nt mu al ops.toList n o ao) (hl:Live nt B G I s a w) (hnt:∀ (j t:Nat),x9l ops.toList j=some t→t < a.tmps.size)
  (hst:stepA C base gen ao s=some s') (hU:U gen) (hUlt:∀ g,U g→g < s.clk) (hK:w2c U G s.clk) (hlo:lo≤gen) (hlo2:lo≤s.clk) (hbase:base≤s.h.length)
  (K:Act→World→Prop) (Q:Exit→Act→World→Prop)
  (next:∀ a' w' G' I',Live nt B G' I' s' a' w'→Ran base lo G I s.h w G' I' s'.h w'→w2c (fun g=>U g∧g≠gen) G' s'.clk→s.clk≤s'.clk→s.h.length≤s'.h.length→a'.tmps.size=a.tmps.size→K a' w'):
  if Region.wanted o (yielded ops a.tmps) then o.wp P a w K Q else K (a.put o.dst undef) w:=by
 have hroom:o.dst.all (· < a.tmps.size)=true:=by
  have h1:=hm.room
  have h2:=hl.size
  cases hd:o.dst with
  | none=>rfl
  | some d=>
    rw[hd] at h1
    simp at h1⊢
    omega
 unfold stepA at hst
 split at hst
 ·rename_i hw
  rw[q8t hm.guard hl.tmps hnt hw,if_pos rfl]
  have called:∀ f args v h1 c (cargs:Array Value),C f args s.h s.clk=some (v,h1,c)→VRL G I args cargs.toList→s'=⟨z8g s.ts ao.dst v,h1,c⟩→o.upon P a K Q ((callFunc (real f) cargs).run P w):=by
   intro f args v h1 c cargs hc hargs hs'
   subst hs'
   refine hC f args s.h s.clk v h1 c hc G I w cargs hargs hl.rel (fun g hg=>hK g (.inr hg)) o a K Q fun cv w' hp=> ?_
   obtain⟨G',I',hv,hran,hfr,hclk,hlen⟩:=hp
   refine next _ _ G' I' ⟨j1 hl.bnd hran.fr.size,by rw[q2l];exact hl.dfr.keep hl.rel hran.fr,by rw[z9c];exact hl.size, ?_,hran.rel⟩ ?_ (fun g hg=> ?_) hclk hlen z9c
   ·rw[hm.dst]
    exact (hl.tmps.mono hran.gle hran.ile).put hv hroom
   ·exact⟨hran.rel,hran.gle,hran.ile,fun g i h1 h2=>by have:=hran.slots g i h1 h2;omega,hran.own,hran.fr,hran.ifr⟩
   ·rcases hg with ⟨h1,_⟩ | h1
    ·cases hgg:G' g with
     | none=>rfl
     | some i=>
       have:=(hran.slots g i hgg (hK g (.inl h1))).1
       have:=hUlt g h1
       omega
    ·exact hfr g h1
  have prims:∀ v h1,ao.op.plain=true→prim s.h base gen s.ts ao.op=some (v,h1)→s'=⟨z8g s.ts ao.dst v,h1,s.clk⟩→o.wp P a w K Q:=by
   intro v h1 hpl hp hs'
   subst hs'
   cases hcop:cOp P back n (mu n) o.op with
   | none=>
     have:=hm.op
     rw[hcop] at this
     rw[this] at hp
     simp[prim,AOp.alt] at hp
   | some aop=>
     have hop:=hm.op
     rw[hcop] at hop
     simp only[d4] at hop
     rw[j9c (by rw[←hop];exact hpl)] at hop
     rw[hop] at hp hpl
     have hdoes:=v4v (hK gen (.inl hU)) hl.rel hl.tmps.eval hcop hpl hp
     obtain⟨dst,op,ty,pos,after,guard⟩:=o
     obtain⟨nx,cv,w',G',I',hr,hnx,hv,hrel,hGle,hIle,hother,hslot,hown,hfr,hifr⟩:=hdoes dst ty pos after guard
     have hran:Ran base lo G I s.h w G' I' h1 w':=⟨hrel,hGle,hIle,fun g i h2 h3=>by
      by_cases hgg:g=gen
      ·subst hgg
       rw[hslot i h2]
       omega
      ·rw[hother g hgg] at h2
       rw[h2] at h3
       simp at h3,hown,hfr,hifr⟩
     have fin:K (a.put dst cv) w':=by
      refine next _ _ G' I' ⟨j1 hl.bnd hfr.size,by rw[q2l];exact hl.dfr.keep hl.rel hfr,by rw[z9c];exact hl.size, ?_,hrel⟩ hran (fun g hg=> ?_) (x7 _) ?_ z9c
      ·rw[hm.dst]
       exact (hl.tmps.mono hGle hIle).put hv hroom
      ·rcases hg with ⟨h2,h3⟩ | h2
       ·rw[hother g h3]
        exact hK g (.inl h2)
       ·have:=hUlt gen hU
        have h3:s.clk≤g:=h2
        rw[hother g (by omega)]
        exact hK g (.inr h2)
      ·exact Nat.le_of_eq (z5y hp).symm
     unfold Oper.wp
     rw[hr]
     rcases hnx with rfl | ⟨rfl,rfl⟩
     ·exact fin
     ·exact fin
  have plainPath:ao.op.plain=true→o.wp P a w K Q:=fun hpl=>by
   split at hst
   ·rename_i heq;rw[heq] at hpl;simp[AOp.plain] at hpl
   ·rename_i heq;rw[heq] at hpl;simp[AOp.plain] at hpl
   ·split at hst
    ·rename_i v h1 hp
     simp only[Option.some.injEq] at hst
     exact prims v h1 hpl hp hst.symm
    ·simp at hst
  have badPath:cOp P back n (mu n) o.op=none→o.wp P a w K Q:=fun hn=>plainPath (by rw[hm.op,hn];rfl)
  by_cases hcall:∃ c,o.op= .call c
  ·obtain⟨⟨callee,args,tys⟩,hoc⟩:=hcall
   have hop:=hm.op
   rw[hoc] at hop badPath
   cases callee with
   | builtin b=>
     cases hb:cOp P back n (mu n) (.call ⟨.builtin b,args,tys⟩) with
     | none=>exact badPath hb
     | some aop=>
       rw[hb] at hop
       refine plainPath ?_
       rw[hop]
       have hpl:aop.plain=true:=x1o (b:=b) (args:=args.toList) (tys:=tys.toList) (by simpa only[cOp] using hb)
       show (aop.alt al).plain=true
       rw[q6x hpl]
       exact hpl
   | invoke r m=>exact badPath (by simp[cOp])
   | value f=>
     cases f with
     | const v=>exact badPath (by simp[cOp])
     | global g=>exact badPath (by simp[cOp])
     | tmp t=>
       cases hb:x3w args.toList with
       | none=>exact badPath (by simp[cOp,hb])
       | some xs=>
         simp only[cOp,hb,j5,d4,AOp.alt] at hop
         rw[hop] at hst
         simp only at hst
         split at hst
         ·rename_i f cap heq
          split at hst
          ·rename_i v h1 c hcc
           simp only[Option.some.injEq] at hst
           have hf:=hl.tmps t
           simp only[AOpd.ev] at heq
           rw[heq] at hf
           simp only[VR] at hf
           obtain⟨vs,hf,hcap⟩:=hf
           have hargs:=q7q hl.tmps.eval hb
           have hall:VRL G I (xs.map (·.ev s.ts)++cap) (args.map a.eval++vs).toList:=by
            rw[Array.toList_append,Array.toList_map]
            obtain⟨g1,g2⟩:=z9j.1 hargs
            obtain⟨g3,g4⟩:=z9j.1 hcap
            refine z9j.2 ⟨by simp only[k7,g1,g3],fun i x v hx hv=> ?_⟩
            rw[n6] at hx hv
            rw[←g1] at hv
            split at hx
            ·rename_i hi;rw[if_pos hi] at hv;exact g2 i x v hx hv
            ·rename_i hi;rw[if_neg hi] at hv;exact g4 _ x v hx hv
           have:=called f _ v h1 c (args.map a.eval++vs) hcc hall hst.symm
           obtain⟨dst,op,ty,pos,after,guard⟩:=o
           simp only at hoc
           subst hoc
           have he:execOp a.eval ⟨dst, .call ⟨.value (.tmp t),args,tys⟩,ty,pos,after,guard⟩=callFunc (real f) (args.map a.eval++vs):=by
            have h2:execOp a.eval ⟨dst, .call ⟨.value (.tmp t),args,tys⟩,ty,pos,after,guard⟩=(do let d←Deferred.ofValue (a.eval (.tmp t)) (args.map a.eval);invoke d.target d.args):=rfl
            have h3:a.eval (.tmp t)= .func (.func (real f)) #[] vs:=hf
            rw[h2,h3]
            show callFunc (real f) ((#[]++args.map a.eval)++vs)=_
            rw[Array.empty_append]
           unfold Oper.wp
           rw[he]
           exact this
          ·simp at hst
         ·simp at hst
     | func f=>
       cases hbk:back f with
       | none=>
         by_cases hlt:f < z6i
         case neg=>exact badPath (by simp[cOp,hbk,hlt])
         cases hb:x3w args.toList with
         | none=>exact badPath (by simp[cOp,hb,hbk])
         | some xs=>
           simp only[cOp,hb,hbk,if_pos hlt,j5,d4,AOp.alt] at hop
           rw[hop] at hst
           simp only at hst
           split at hst
           ·rename_i v h1 c hcc
            simp only[Option.some.injEq] at hst
            have hargs:=q7q hl.tmps.eval hb
            have:=called (f + z6i * al f) _ v h1 c (args.map a.eval) hcc (by rw[Array.toList_map];exact hargs) hst.symm
            rw[k4m hlt] at this
            obtain⟨dst,op,ty,pos,after,guard⟩:=o
            simp only at hoc
            subst hoc
            have he:execOp a.eval ⟨dst, .call ⟨.value (.func f),args,tys⟩,ty,pos,after,guard⟩=callFunc f (args.map a.eval):=by
             show callFunc f ((#[]++args.map a.eval)++ #[])=_
             rw[Array.empty_append,Array.append_empty]
            unfold Oper.wp
            rw[he]
            exact this
           ·simp at hst
       | some k=>
         obtain⟨args⟩:=args
         match args,hoc,hop,badPath with
         | [],hoc,hop,badPath=>exact badPath (by simp[cOp,hbk])
         | _::_::_,hoc,hop,badPath=>exact badPath (by simp[cOp,hbk])
         | [x],hoc,hop,badPath=>
           cases hb:z5x x with
           | none=>exact badPath (by simp[cOp,hb,hbk])
           | some x1=>
             simp only[cOp,hb,hbk,j5,d4,AOp.alt] at hop
             rw[hop] at hst
             simp only[prim] at hst
             by_cases hrl:(z6v (x1.ev s.ts)).isSome=true
             case neg=>
              rw[if_neg hrl] at hst
              simp at hst
             rw[if_pos hrl] at hst
             simp only[Option.some.injEq] at hst
             subst hst
             have hx:=z1b hl.tmps.eval hb
             obtain⟨dst,op,ty,pos,after,guard⟩:=o
             simp only at hoc
             subst hoc
             have he:execOp a.eval ⟨dst, .call ⟨.value (.func f),⟨[x]⟩,tys⟩,ty,pos,after,guard⟩=callFunc f #[a.eval x]:=by
              show callFunc f ((#[]++(⟨[x]⟩:Array Operand).map a.eval)++ #[])=_
              rw[Array.empty_append,Array.append_empty,y4q]
             unfold Oper.wp
             rw[he]
             refine hBack f k hbk G I w _ _ hrl hx hl.rel.imm _ a K Q fun cv w' hp=> ?_
             obtain⟨I',hI,hv,hold,h1,h2,h3,h4,h5⟩:=hp
             have hother:∀ b o v,b < w.heap.size→I' b o=some v→I b o=some v:=fun b o v hb hv=>(h5 b o v hv).resolve_right fun hc=>by omega
             have hrel:Rel G I' s.h w':=by
              refine⟨fun b o v hv=> ?_,fun i o ho=> ?_,hl.rel.inj⟩
              ·rcases h5 b o v hv with g1 | ⟨_,g1⟩
               ·exact z4x (hl.rel.imm b o v g1) (hold _)
               ·exact g1
              ·have hob:=hl.rel.obj i o ho
               refine hob.shift (GLe.refl _) hI (fun b hb=> ?_) fun b hb o v hv=>hother b o v (z9q hob hb) hv
               obtain⟨y,hy⟩:=q1h hob hb
               rw[hy,hold b y hy]
             have hfr:Fr G s.h w w':=⟨h1,h2,h3,h4,fun b hb _=>by rw[hold b w.heap[b] (Array.getElem?_eq_getElem hb),Array.getElem?_eq_getElem hb]⟩
             refine next _ _ G I' ⟨j1 hl.bnd hfr.size,by rw[q2l];exact⟨fun d hd=>(let ⟨r,q1,q0,q2⟩:=hl.dfr.1 d hd;⟨r,q1,q0,hold r _ q2⟩),hl.dfr.2⟩,by rw[z9c];exact hl.size, ?_,hrel⟩ ⟨hrel,GLe.refl _,hI,fun g i h1 h2=>by rw[h1] at h2;simp at h2,OwnLe.refl _ _ _,hfr,fun b hb _ o v hv=>hother b o v hb hv⟩ (fun g hg=> ?_) (x7 _) (x7 _) z9c
             ·rw[hm.dst]
              exact (hl.tmps.mono (GLe.refl _) hI).put hv hroom
             ·rcases hg with ⟨h1,_⟩ | h1
              ·exact hK g (.inl h1)
              ·exact hK g (.inr h1)
  ·refine plainPath ?_
   rw[hm.op]
   cases hb:cOp P back n (mu n) o.op with
   | none=>rfl
   | some aop=>
     have hpl:aop.plain=true:=j9b (fun c hc=>hcall ⟨c,hc⟩) hb
     show (aop.alt al).plain=true
     rw[q6x hpl]
     exact hpl
 ·rename_i hw
  rw[q8t hm.guard hl.tmps hnt hw]
  simp only[Bool.false_eq_true,if_false]
  simp only[Option.some.injEq] at hst
  subst hst
  refine next _ _ G I ⟨hl.bnd,by rw[q2l];exact hl.dfr,by rw[z9c];exact hl.size, ?_,hl.rel⟩ (Ran.refl hl.rel) (fun g hg=> ?_) (x7 _) (x7 _) z9c
  ·rw[hm.dst]
   exact hl.tmps.put (by simp only[VR];exact⟨#[],rfl,by simp[VRL]⟩) hroom
  ·rcases hg with ⟨h1,_⟩ | h1
   ·exact hK g (.inl h1)
   ·exact hK g (.inr h1)
 ·simp at hst
end
section
variable {P:Program} {G:Ghost} {I:Imm} {h:List AObj} {w:World}
def q1b (P:Program) (back:Nat→Option Nat):Prop:=
 ∀ f k,back f=some k→∀ G I w x cx,(z6v x).isSome=true→VR G I x cx→(∀ b o v,I b o=some v→w.cell? ⟨b,o,none⟩=some v)→CallRes P f #[cx] w fun cv w'=>∃ I',ILe I I'∧VR G I' (.bwd k x) cv∧(∀ (b:Nat) (y:Obj),w.heap[b]? =some y→w'.heap[b]? =some y)∧w'.os=w.os∧w'.tape=w.tape∧w'.output=w.output∧w.heap.size≤w'.heap.size∧
     ∀ b o v,I' b o=some v→I b o=some v∨(w.heap.size≤b∧w'.cell? ⟨b,o,none⟩=some v)
structure MadeAll (P:Program) (back:Nat→Option Nat) (nt:Nat) (mu:Nat→Bool) (al:Nat→Nat) (ops:Array Oper) (asx:List AOper):Prop where
 len:asx.length=ops.size
 made:∀ (i:Nat) o,ops[i]? =some o→∃ ao m,asx[i]? =some ao∧Made P back nt mu al ops.toList m o ao
theorem q8u {back:Nat→Option Nat} {nt:Nat} {mu:Nat→Bool} {al:Nat→Nat} {all:List Oper}:∀ {os:List Oper} {asx:List AOper} {n n':Nat},x1w P back nt mu al all n os=some (asx,n')→
  asx.length=os.length∧∀ (i:Nat) o,os[i]? =some o→∃ ao m,asx[i]? =some ao∧Made P back nt mu al all m o ao
 | [],asx,n,n',hc=>by
   simp[x1w] at hc
   obtain⟨rfl,_⟩:=hc
   simp
 | o::os,asx,n,n',hc=>by
   simp only[x1w] at hc
   split at hc
   ·rename_i g asx' n1 hg hr
    split at hc
    ·rename_i hd
     simp only[Option.some.injEq,Prod.mk.injEq] at hc
     obtain⟨rfl,_⟩:=hc
     obtain⟨h1,h2⟩:=q8u hr
     refine⟨by simp[h1],fun i o' ho=> ?_⟩
     cases i with
     | zero=>
       simp at ho
       subst ho
       exact⟨_,n,rfl,rfl,rfl,hg,hd⟩
     | succ i=>simpa using h2 i o' (by simpa using ho)
    ·simp at hc
   ·simp at hc
theorem MadeAll.of {back:Nat→Option Nat} {nt:Nat} {mu:Nat→Bool} {al:Nat→Nat} {ops:Array Oper} {asx:List AOper} {n n':Nat} (hc:x1w P back nt mu al ops.toList n ops.toList=some (asx,n')):MadeAll P back nt mu al ops asx:=by
 obtain⟨h1,h2⟩:=q8u hc
 exact⟨by simpa using h1,fun i o ho=>h2 i o (by simpa using ho)⟩
theorem MadeAll.dst {back:Nat→Option Nat} {nt:Nat} {mu:Nat→Bool} {al:Nat→Nat} {ops:Array Oper} {asx:List AOper} (m:MadeAll P back nt mu al ops asx) (j t:Nat) (hj:x9l ops.toList j=some t):t < nt:=by
 unfold x9l at hj
 cases ho:ops.toList[j]? with
 | none=>simp[ho] at hj
 | some o=>
   rw[ho] at hj
   simp only[Option.bind_some] at hj
   obtain⟨ao,n,_,hm⟩:=m.made j o (by simpa using ho)
   have:=hm.room
   rw[hj] at this
   simpa using this
def q6y (r:Option Nat):Fence:={Fence.wide with round:=r}
theorem j9d {r:Option Nat} {n:Nat}:(q6y r).room n:=fun _ h=>by simp[q6y,Fence.wide] at h
theorem k5e {r:Option Nat} {m n:Nat} {c:Code} {Q:Exit→Act→World→Prop} {a:Act} (hh:c.wpIn (q6y r) m P Q a w):c.wpIn (q6y r) n P Q a w:=
 fun b k cs h1 h2 _=>hh b k cs h1 h2 j9d
theorem j6i {r:Option Nat} {n:Nat} {f:FuncId} {args:Array Value} {R:Ending→World→Prop} (hh:Calls P f args w R):CallsIn (q6y r) n P f args w R:=by
 have:=(callsIn_wide (n:=n)).2 hh
 exact⟨trivial,fun cs _=>this.2 cs (room_wide _)⟩
theorem j0c {r:Option Nat} {n:Nat} {f:FuncId} {args:Array Value} {R:Ending→World→Prop} (hh:CallsIn (q6y r) n P f args w R):Calls P f args w R:=by
 refine (callsIn_wide (n:=n)).1 ⟨trivial,fun cs _=>hh.2 cs j9d⟩
theorem v4x {r:Option Nat} {n:Nat} {o:Oper} {a:Act} {K:Act→World→Prop} {Q:Exit→Act→World→Prop} (hd:∀ c,o.op≠ .defer c) (hh:o.wp P a w K Q):o.wpIn (q6y r) n P a w K Q:=by
 refine⟨fun _ _=>trivial, ?_⟩
 rw[Oper.semAt_eq _ _ _ hd]
 unfold Oper.wp at hh
 generalize (execOp a.eval o).run P w=res at *
 cases res with
 | ok x w'=>
   cases x <;> simp only[Oper.upon,Oper.uponIn] at hh⊢
   case value v=>exact hh
   case skip=>exact hh
   case defer d=>exact hh
   case enter f args=>exact⟨fun h=>by simp[q6y,Fence.wide] at h,(j6i hh).mono fun e w'' he=>by cases e <;> exact he⟩
   case row row args=>
    refine⟨fun h=>by simp[q6y,Fence.wide] at h,fun c cs _=> ?_⟩
    obtain⟨v,w'',h1,h2⟩:=hh c cs
    exact⟨v,w'',h1,stepsIn_wide.2 h2⟩
   all_goals exact hh.elim
 | halt x w'=>cases x <;> simp only[Oper.upon,Oper.uponIn] at hh⊢ <;> exact hh
theorem j9e {C:Caller} {back:Nat→Option Nat} {r:Option Nat} {k nt B base n lo gen:Nat} {mu:Nat→Bool} {al:Nat→Nat} {ops:Array Oper} {o:Oper} {ao:AOper} {s s':St} {a:Act} {U:Nat→Prop} (hC:q4m P C) (hB:q1b P back)
  (hm:Made P back nt mu al ops.toList n o ao) (hl:Live nt B G I s a w) (hnt:∀ (j t:Nat),x9l ops.toList j=some t→t < a.tmps.size)
  (hst:stepA C base gen ao s=some s') (hU:U gen) (hUlt:∀ g,U g→g < s.clk) (hK:w2c U G s.clk) (hlo:lo≤gen) (hlo2:lo≤s.clk) (hbase:base≤s.h.length)
  (K:Act→World→Prop) (Q:Exit→Act→World→Prop)
  (next:∀ a' w' G' I',Live nt B G' I' s' a' w'→Ran base lo G I s.h w G' I' s'.h w'→w2c (fun g=>U g∧g≠gen) G' s'.clk→s.clk≤s'.clk→s.h.length≤s'.h.length→a'.tmps.size=a.tmps.size→K a' w'):
  if Region.wanted o (yielded ops a.tmps) then o.wpIn (q6y r) k P a w K Q else (∀ f,o.about P w a.eval=some f→(q6y r).fn f)∧K (a.put o.dst undef) w:=by
 have hstep:=v4w (Q:=Q) (K:=K) hC hB hm hl hnt hst hU hUlt hK hlo hlo2 hbase next
 split
 ·rename_i hw
  rw[if_pos hw] at hstep
  refine v4x (fun c hc=> ?_) hstep
  have hop:=hm.op
  rw[hc] at hop
  simp only[cOp,Option.getD_none,AOp.alt] at hop
  unfold stepA at hst
  split at hst
  ·rw[hop] at hst
   simp[prim] at hst
  ·rename_i hw2
   rw[q8t hm.guard hl.tmps hnt hw2] at hw
   simp at hw
  ·simp at hst
 ·rename_i hw
  rw[if_neg hw] at hstep
  exact⟨fun _ _=>trivial,hstep⟩
def Came (base nt B lo:Nat) (G:Ghost) (I:Imm) (s:St) (w:World) (s':St) (K:Act→World→Prop):Prop:=
 ∀ a' w' G' I',Live nt B G' I' s' a' w'→Ran base lo G I s.h w G' I' s'.h w'→Fresh G' s'.clk→s.clk≤s'.clk→s.h.length≤s'.h.length→K a' w'
theorem j9f {C:Caller} {back:Nat→Option Nat} {r:Option Nat} {q nt B base lo clk0:Nat} {mu:Nat→Bool} {al:Nat→Nat} {ops:Array Oper} {asx:List AOper} (hC:q4m P C) (hB:q1b P back) (m:MadeAll P back nt mu al ops asx) (hlo:lo≤clk0):
  ∀ (k j:Nat),j + k=ops.size→∀ (s s':St) (G:Ghost) (I:Imm) (w:World) (a:Act),z8h C base (clk0 + j) (asx.drop j) s=some s'→Live nt B G I s a w→w2c (fun g=>clk0 + j≤g∧g < clk0 + ops.size) G s.clk→clk0 + ops.size≤s.clk→base≤s.h.length→
    ∀ Q,Came base nt B lo G I s w s' (Q .normal)→wpOpsIn (q6y r) q P ops Q (List.range' j k) a w:=by
 intro k
 induction k with
 | zero=>
   intro j hj s s' G I w a hr hl hK hclk hb Q hQ
   have hd:asx.drop j=[]:=List.drop_eq_nil_iff.2 (by rw[m.len];omega)
   rw[hd] at hr
   simp only[z8h,Option.some.injEq] at hr
   subst hr
   simp only[List.range'_zero,wpOpsIn]
   exact hQ a w G I hl (Ran.refl hl.rel) (fun g hg=>hK g (.inr hg)) (x7 _) (x7 _)
 | succ k ih=>
   intro j hj s s' G I w a hr hl hK hclk hb Q hQ
   have hjl:j < ops.size:=by omega
   have ho:ops[j]? =some ops[j]:=Array.getElem?_eq_getElem hjl
   obtain⟨ao,n,hao,hm⟩:=m.made j _ ho
   have hd:asx.drop j=ao::asx.drop (j + 1):=by
    have hja:j < asx.length:=by rw[m.len];exact hjl
    rw[List.drop_eq_getElem_cons hja]
    rw[v9 hja] at hao
    simp at hao
    rw[hao]
   rw[hd] at hr
   simp only[z8h] at hr
   split at hr
   ·rename_i s1 hst
    have hstep:=j9e (r:=r) (k:=q) (Q:=Q) (K:=wpOpsIn (q6y r) q P ops Q (List.range' (j + 1) k)) (lo:=lo) (gen:=clk0 + j) (U:=fun g=>clk0 + j≤g∧g < clk0 + ops.size) hC hB hm hl (fun i t hi=>Nat.lt_of_lt_of_le (m.dst i t hi) hl.size) hst
     ⟨x7 _,by omega⟩ (fun g hg=>by omega) hK (by omega) (by omega) hb (fun a1 w1 G1 I1 hl1 hran hK1 hc1 hlen1 hsz=>by
      refine ih (j + 1) (by omega) s1 s' G1 I1 w1 a1 (by rw[←Nat.add_assoc];exact hr) hl1 (fun g hg=>hK1 g ?_) (by omega) (by omega) Q fun a2 w2 G2 I2 hl2 hran2 hf2 hc2 hlen2=> ?_
      ·rcases hg with hg | hg
       ·exact .inl ⟨⟨by omega,hg.2⟩,by omega⟩
       ·exact .inr hg
      ·exact hQ a2 w2 G2 I2 hl2 (hran.trans hran2 (x7 _) (x7 _)) hf2 (by omega) (by omega))
    rw[List.range'_succ]
    simp only[wpOpsIn,ho]
    split
    ·rename_i hw
     rw[if_pos hw] at hstep
     exact hstep
    ·rename_i hw
     rw[if_neg hw] at hstep
     exact hstep
   ·simp at hr
def x7l (P:Program) (back:Nat→Option Nat):Prop:=
 ∀ (Γ:AProg) (k nt B base:Nat) (mu:Nat→Bool) (al:Nat→Nat) (id:Nat) (ops:Array Oper) (asx:List AOper),q4m P (z0k (z3q Γ k) Γ)→q1b P back→MadeAll P back nt mu al ops asx→
   q8f (Region.before ops).toList asx 0 asx=true→j8i asx (q1g (Region.before ops).toList asx 0 asx)=true→q5t 0 ops.toList=true→
   ∀ (s s':St) (G:Ghost) (I:Imm) (w:World) (a:Act),region (z0k (z3q Γ k) Γ) Γ base asx.length asx (q1g (Region.before ops).toList asx 0 asx) s=some s'→Live nt B G I s a w→Fresh G s.clk→base≤s.h.length→
     ∀ (r:Option Nat) (q:Nat) (Q:Exit→Act→World→Prop),Came base nt B s.clk G I s w s' (Q .normal)→(Code.region id ops true).wpIn (q6y r) q P Q a w
def j2w:AEx→Exit
 | .norm=> .normal
 | .exit id=> .exit id
 | .ret=> .ret
def x2g (P:Program) (back:Nat→Option Nat) (E:Nat→ACode→St→Option (AEx×St)):Prop:=
 ∀ (r:Option Nat) (nt B:Nat) (mu:Nat→Nat→Bool) (al:Nat→Nat) (base n:Nat) (code:Code) (c:ACode) (n':Nat) (s:St) (e:AEx) (s':St),z8i P back nt mu al n code=some (c,n')→(r=none∨c.noRange=true)→E base c s=some (e,s')→base≤s.h.length→
   ∀ (G:Ghost) (I:Imm) (w:World) (a:Act) (q:Nat) (Q:Exit→Act→World→Prop),Live nt B G I s a w→Fresh G s.clk→Came base nt B s.clk G I s w s' (Q (j2w e))→code.wpIn (q6y r) q P Q a w
def j9g (P:Program) (k:Nat):Prop:=
 ∀ (q l b n c:Nat) (A:Option Addr) (J:Nat→World→Prop) (W:World),n < 2 ^ 48→
   (∀ i W,J i W→W.cell? ⟨b,0,none⟩=some (.slice A n c))→(∀ i W d,J i W→J i {W with drawn:=d})→
   (∀ i W,i < n→J (i + 1) W→∃ bA oA vx,A=some ⟨bA,oA,none⟩∧n≤c∧W.cell? ⟨bA,oA + i,none⟩=some vx∧YieldAt (q6y none) q P l #[.int .i64 i,vx] W fun e W'=>e= .returned (.bool true)∧J i W')→
   J n W→CallsIn (q6y none) (q + 1) P k #[.func (.yield l) #[] #[], .pointer (some ⟨b,0,none⟩)] W fun e W'=>(∃ v,e= .returned v)∧J 0 W'
theorem j9h {C:Caller} {Γ:AProg} {back:Nat→Option Nat} {r:Option Nat} {q nt B base:Nat} {mu:Nat→Bool} {al:Nat→Nat} {id:Nat} {ops:Array Oper} {asx:List AOper} (hC:q4m P C) (hB:q1b P back) (m:MadeAll P back nt mu al ops asx) {s s':St} {a:Act}
  (hr:region C Γ base asx.length asx [] s=some s') (hl:Live nt B G I s a w) (hf:Fresh G s.clk) (hb:base≤s.h.length) {Q:Exit→Act→World→Prop} (hQ:Came base nt B s.clk G I s w s' (Q .normal)):(Code.region id ops false).wpIn (q6y r) q P Q a w:=by
 refine wpIn_region ?_
 rw[List.range_eq_range']
 simp only[region] at hr
 have hl':Live nt B G I {s with clk:=s.clk + asx.length} a w:=⟨hl.bnd,hl.dfr,hl.size,hl.tmps,hl.rel⟩
 refine j9f (lo:=s.clk) (clk0:=s.clk) hC hB m (x7 _) ops.size 0 (by omega) _ s' G I w a (by simpa using hr) hl' (fun g hg=>hf g ?_) (by rw[m.len];exact x7 _) hb Q fun a' w' G' I' h1 h2 h3 h4 h5=>hQ a' w' G' I' h1 h2 h3 ?_ h5
 ·rcases hg with hg | hg
  ·omega
  ·have:s.clk + asx.length≤g:=hg
   omega
 ·have:s.clk + asx.length≤s'.clk:=h4
  omega
end
section
variable {P:Program} {G:Ghost} {I:Imm} {h:List AObj} {w:World}
theorem k5f {s b:Nat} {o:AObj} (hob:ObjR G I w s o) (ho:own G o=some b):(∃ cs t z,w.heap[b]? =some (.cells cs t z))∨∃ e c,w.heap[b]? =some (.map e c):=by
 cases o with
 | dead=>simp[own] at ho
 | blk g es row grow fz=>
   obtain⟨i,cs,t,h1,_,h3,_⟩:=hob
   simp[own,h1] at ho
   subst ho
   exact .inl ⟨_,_,_,h3⟩
 | tip g e=>
   obtain⟨i,h1,_,_,h3⟩:=hob
   simp[own,h1] at ho
   obtain⟨hr,rfl⟩:=ho
   obtain⟨cs,t,h4,_⟩:=h3 hr
   exact .inl ⟨_,_,_,h4⟩
 | map g es=>
   obtain⟨i,ents,clk,h1,_,h3,_⟩:=hob
   simp[own,h1] at ho
   subst ho
   exact .inr ⟨_,_,h3⟩
def Odd (o:Obj):Prop:=(∀ cs t z,o≠ .cells cs t z)∧∀ e c,o≠ .map e c
theorem q8v {l:Nat} {o:Obj} (rel:Rel G I h w) (hl:w.heap[l]? =some o) (hodd:Odd o):∀ (i:Nat) x,h[i]? =some x→own G x≠some l:=fun i x hi hx=>by
 rcases k5f (rel.obj i x hi) hx with ⟨cs,t,z,h1⟩ | ⟨e,c,h1⟩
 ·rw[hl] at h1
  simp only[Option.some.injEq] at h1
  exact hodd.1 _ _ _ h1
 ·rw[hl] at h1
  simp only[Option.some.injEq] at h1
  exact hodd.2 _ _ h1
theorem Rel.putObj {l:Nat} {o o':Obj} (rel:Rel G I h w) (hl:w.heap[l]? =some o) (hodd:Odd o):Rel G I h (w.putObj l o'):=by
 refine⟨fun b c v hv=> ?_,fun i x hx=> ?_,rel.inj⟩
 ·have hc:=rel.imm b c v hv
  refine z4x hc fun x hx=> ?_
  have hne:b≠l:=fun e=>by
   subst e
   simp only at hx
   rw[hl] at hx
   simp only[Option.some.injEq] at hx
   subst hx
   unfold World.cell? at hc
   simp only[hl] at hc
   cases o with
   | cells cs t z=>exact hodd.1 _ _ _ rfl
   | _=>simp at hc
  exact (World.putObj_heap_other hne).trans hx
 ·refine (rel.obj i x hx).world fun b hb=>World.putObj_heap_other fun e=> ?_
  subst e
  exact q8v rel hl hodd i x hx hb
theorem Ran.putObj {base clk l:Nat} {G':Ghost} {I':Imm} {h':List AObj} {w':World} {o o':Obj} (r:Ran base clk G I h w G' I' h' w') (hl:w'.heap[l]? =some o) (hodd:Odd o) (hlo:w.heap.size≤l):Ran base clk G I h w G' I' h' (w'.putObj l o'):=
 ⟨r.rel.putObj hl hodd,r.gle,r.ile,r.slots,r.own,⟨r.fr.os,r.fr.tape,r.fr.output,by rw[World.putObj_size];exact r.fr.size,fun b hb hn=>by
  rw[World.putObj_heap_other (by omega)]
  exact r.fr.kept b hb hn⟩,r.ifr⟩
theorem Ran.drawn {base clk:Nat} {G':Ghost} {I':Imm} {h':List AObj} {w':World} {d:Nat} (r:Ran base clk G I h w G' I' h' w'):Ran base clk G I h w G' I' h' {w' with drawn:=d}:=
 ⟨r.rel.world fun _ _ hx=>hx,r.gle,r.ile,r.slots,r.own,⟨r.fr.os,r.fr.tape,r.fr.output,r.fr.size,r.fr.kept⟩,r.ifr⟩
theorem Ran.odd {base clk l:Nat} {G':Ghost} {I':Imm} {h':List AObj} {w':World} {o:Obj} (r:Ran base clk G I h w G' I' h' w') (rel:Rel G I h w) (hl:w.heap[l]? =some o) (hodd:Odd o):w'.heap[l]? =some o:=by
 rw[r.fr.kept l (Array.getElem?_eq_some_iff.1 hl).1 (q8v rel hl hodd)]
 exact hl
theorem q4n {r:Loop}:Odd (.loop r):=⟨fun _ _ _=>by simp,fun _ _=>by simp⟩
theorem q1j {x:Option (List Deferred)}:Odd (.deferred x):=⟨fun _ _ _=>by simp,fun _ _=>by simp⟩
theorem j9i {v x:AV} {A:Option Addr} {n c i:Nat} (rel:Rel G I h w) (hv:VR G I v (.slice A n c)) (hn:z6v v=some n) (hi:i < n) (hx:q6s h v i=some x):
  ∃ bA oA vx,A=some ⟨bA,oA,none⟩∧n≤c∧w.cell? ⟨bA,oA + i,none⟩=some vx∧VR G I x vx:=by
 have hone:∀ y:AV,y.one=true→y.cells=[y]:=fun y hy=>by cases y <;> simp[AV.one] at hy <;> rfl
 cases v <;> simp only[z6v] at hn
 case sl xs t=>
  split at hn
  ·simp only[Option.some.injEq] at hn
   simp only[VR] at hv
   obtain⟨A',n',c',h1,h2,h3,_,h4⟩:=hv
   simp only[Value.slice.injEq] at h1
   obtain⟨rfl,rfl,rfl⟩:=h1
   simp only[q6s,z6k] at hx
   split at hx
   ·rename_i y hy
    split at hx
    ·rename_i h5
     simp only[Option.some.injEq] at hx
     subst hx
     rcases h4 with h4 | ⟨b,o,e,rfl,h6,h7⟩
     ·omega
     ·obtain⟨h8,h9⟩:=z5u.1 h7 i y hy
      rw[hone y h5] at h8 h9
      simp only[v5,u3] at h8
      subst h8
      rw[q0g] at h9
      obtain⟨⟨cv,h10,h11⟩,_⟩:=h9
      exact⟨b,o,cv,rfl,h3,by simpa using rel.imm _ _ _ h10,h11⟩
    ·simp at hx
   ·simp at hx
  ·simp at hn
 case ob s g off len=>
  split at hn
  ·simp only[Option.some.injEq] at hn
   subst hn
   simp only[VR] at hv
   obtain⟨gi,A',c',h1,h2,h3,h4,h5,h6⟩:=hv
   simp only[Value.slice.injEq] at h3
   obtain⟨rfl,_,rfl⟩:=h3
   simp only[q6s,z6k,q3h] at hx
   split at hx
   ·rename_i xs hxs
    split at hxs
    ·rename_i es grow fz hb
     split at hxs
     ·rename_i hle
      simp only[Option.some.injEq] at hxs
      subst hxs
      split at hx
      ·rename_i y hy
       split at hx
       ·rename_i h7
        simp only[Option.some.injEq] at hx
        subst hx
        have hy2:es[off + i]? =some y:=by
         simpa [List.getElem?_take,hi,d8] using hy
        obtain⟨gi',cs,ty,g1,_,g3,_,g5,_,_,_,hE,_⟩:=rel.obj s _ (z8z hb)
        obtain rfl:gi=gi':=by rw[h1] at g1;simpa using g1
        obtain⟨e1,e2⟩:=hE _ y hy2
        rw[hone y h7] at e1 e2
        simp only[v5,u3] at e1
        obtain⟨cv,h10,h11⟩:=e2 0 y rfl
        rw[←e1] at h10 h6
        rcases h6 with h6 | h6
        ·omega
        ·refine⟨gi.blk,off,cv,by simpa using h6,h4, ?_,h11⟩
         unfold World.cell?
         simp only[g3]
         simpa using h10
       ·simp at hx
      ·simp at hx
     ·simp at hxs
    ·simp at hxs
   ·simp at hx
  ·simp at hn
 all_goals simp at hn
theorem v4y {ps:Array Nat} {p q:Nat} {x y:Value} {t:Array Value} (hps:ps.toList=[p,q]):(ps.zip #[x,y]).foldl (fun t (p,v)=>t.setIfInBounds p v) t=(t.setIfInBounds p x).setIfInBounds q y:=by
 obtain⟨l⟩:=ps
 simp only at hps
 subst hps
 simp
theorem k5g {back:Nat→Option Nat} {E:Nat→ACode→St→Option (AEx×St)} (hE:x2g P back E) {nt B:Nat} {mu:Nat→Nat→Bool} {al:Nat→Nat} {base n n1 n2:Nat} {f:Operand} {ps:Array Nat} {x:AOpd} {p p':Nat} {assign body:Code} {a' b':ACode} {s:St} {v:AV} {k len:Nat} {m:List AObj×Nat}
  (hf1:z5x f=some x) (hps:ps.toList=[p,p']) (ha:z8i P back nt mu al n assign=some (a',n1)) (hb:z8i P back nt mu al n1 body=some (b',n2)) (hna:a'.noRange=true) (hnb:b'.noRange=true) (hp:p < nt) (hp':p' < nt) (heq:x.ev s.ts= .bwd k v) (hlen:z6v v=some len) (hI:j9g P k) (hk:∀ args w,(callFunc k args).run P w= .ok (.enter k args) w)
  (hr:q1f (fun s=>match E base a' s with
      | some (.norm,s')=>E base b' s'
      | r=>r) v s.ts p p' len (s.h,s.clk)=some m) (hbase:base≤s.h.length) {a:Act} {q:Nat} {Q:Exit→Act→World→Prop} (hl:Live nt B G I s a w) (hf:Fresh G s.clk) (hQ:Came base nt B s.clk G I s w ⟨s.ts,m.1,m.2⟩ (Q .normal)):(Code.rangeFunc f ps assign body).wpIn (q6y none) q P Q a w:=by
 have hv:=z1b hl.tmps.eval hf1
 rw[heq] at hv
 simp only[VR] at hv
 obtain⟨bc,y,hfv,hIb,hvy⟩:=hv
 obtain⟨A,c,rfl⟩:∃ A c,y= .slice A len c:=by
  cases v <;> simp only[z6v] at hlen
  case sl xs t=>
   split at hlen
   ·simp only[Option.some.injEq] at hlen
    simp only[VR] at hvy
    obtain⟨A,n',c,rfl,h2,_⟩:=hvy
    exact⟨A,c,by rw[←hlen,h2]⟩
   ·simp at hlen
  case ob s g off l=>
   split at hlen
   ·simp only[Option.some.injEq] at hlen
    simp only[VR] at hvy
    obtain⟨i,A,c,_,_,rfl,_⟩:=hvy
    exact⟨A,c,by rw[hlen]⟩
   ·simp at hlen
  all_goals simp at hlen
 have hlt:len < 2 ^ 48:=by
  cases v <;> simp only[z6v] at hlen
  case sl xs t=>split at hlen <;> simp at hlen;omega
  case ob s g off l=>split at hlen <;> simp at hlen;omega
  all_goals simp at hlen
 refine k5e (m:=q + 2) (wpIn_rangeFunc ?_)
 intro fn _
 obtain⟨rec,hrec⟩:∃ rec:LoopState→Option Code→Loop,rec=fun st pe=>{state:=st,pending:=pe,fn,tmps:=a.tmps,params:=ps,assign,body,defers:=w.heap.size}:=⟨_,rfl⟩
 obtain⟨W1,hW1⟩:∃ W1,(w.alloc (.deferred (some []))).alloc (.loop (rec .ready none))=W1:=⟨_,rfl⟩
 have hL1:W1.heap[w.heap.size + 1]? =some (.loop (rec .ready none)):=by
  rw[←hW1];have:=World.alloc_heap_new (w.alloc (.deferred (some []))) (.loop (rec .ready none));rwa [World.size_alloc] at this
 have hK1:W1.heap[w.heap.size]? =some (.deferred (some [])):=by
  rw[←hW1];exact (RowKit.Below.heap_alloc _ _ _ (by simp)).trans (World.alloc_heap_new w _)
 have hold1:∀ b,b < w.heap.size→W1.heap[b]? =w.heap[b]? :=fun b hb=>by
  rw[←hW1]
  exact (RowKit.Below.heap_alloc _ _ _ (by simp;omega)).trans (RowKit.Below.heap_alloc _ _ _ hb)
 have hran1:Ran base s.clk G I s.h w G I s.h W1:=by
  refine⟨hl.rel.world fun b x hx=> ?_,GLe.refl _,ILe.refl _,fun g i h1 h2=>by rw[h1] at h2;simp at h2,OwnLe.refl _ _ _, ?_,IFr.refl⟩
  ·rw[hold1 b (Array.getElem?_eq_some_iff.1 hx).1];exact hx
  ·refine⟨by rw[←hW1];rfl,by rw[←hW1];rfl,by rw[←hW1];rfl,by rw[←hW1];simp;omega,fun b hb _=>hold1 b hb⟩
 refine⟨w.heap.size + 1,[{target:= .collected w.heap.size,args:= #[]}],W1,{target:= .fn (.func k) #[.pointer (some ⟨bc,0,none⟩)],args:= #[.func (.yield (w.heap.size + 1)) #[] #[]]},W1,k,
  #[.func (.yield (w.heap.size + 1)) #[] #[], .pointer (some ⟨bc,0,none⟩)],W1, ?_, ?_,fun _ _=>trivial, ?_,fun h=>by simp[q6y,Fence.wide] at h, ?_⟩
 ·rw[←hW1,hrec];exact run_enterLoop_outer _ _ _ _ _
 ·simp only[resolve,hfv]
  simp[go_sem]
 ·simp[invoke,go_sem,hk]
 ·
  refine (hI q (w.heap.size + 1) bc len c A (fun i W=>∃ G' I' h' clk',q1f (fun s=>match E base a' s with
     | some (.norm,s')=>E base b' s'
     | r=>r) v s.ts p p' i (h',clk')=some m∧Ran base s.clk G I s.h w G' I' h' W∧Fresh G' clk'∧s.clk≤clk'∧s.h.length≤h'.length∧W.heap[w.heap.size + 1]? =some (.loop (rec .ready none))∧W.heap[w.heap.size]? =some (.deferred (some []))) W1 hlt ?_ ?_ ?_ ⟨G,I,s.h,s.clk,hr,hran1,hf,x7 _,x7 _,hL1,hK1⟩).mono ?_
  ·rintro i W ⟨G',I',h',clk',_,hran,_⟩
   exact hran.rel.imm _ _ _ (hran.ile _ _ _ hIb)
  ·rintro i W d ⟨G',I',h',clk',h1,hran,h3,h4,h5,h6,h7⟩
   exact⟨G',I',h',clk',h1,hran.drawn,h3,h4,h5,h6,h7⟩
  ·rintro i W hi ⟨G',I',h',clk',h1,hran,h3,h4,h5,h6,h7⟩
   simp only[q1f] at h1
   split at h1
   ·rename_i xv hxv
    obtain⟨bA,oA,vx,hA,hnc,hcell,hvx⟩:=j9i hran.rel (VR.mono hran.gle hran.ile hvy) hlen hi hxv
    refine⟨bA,oA,vx,hA,hnc,hcell, ?_⟩
    split at h1
    ·rename_i s2 hround
     have hasg:∃ s1,E base a' ⟨upd (upd s.ts p (.int .i64 i)) p' xv,h',clk'⟩=some (.norm,s1)∧E base b' s1=some (.norm,s2):=by
      split at hround
      ·rename_i s1 h8
       exact⟨s1,h8,hround⟩
      ·rename_i h8
       exact absurd hround (h8 s2)
     obtain⟨s1,hea,heb⟩:=hasg
     have hpsz:ps.size=2:=by
      rw[←Array.length_toList,hps];rfl
     have hy:=run_yield (P:=P) (args:= #[.int .i64 i,vx]) h6 (by rw[hrec];simp[hpsz])
     rw[hrec] at hy
     refine⟨fn,_,assign,body,hy,roundIn_of_wpIn (F:=q6y none) trivial ?_⟩
     have htm:TmpR G' I' (upd (upd s.ts p (.int .i64 i)) p' xv) ((a.tmps.setIfInBounds p (.int .i64 i)).setIfInBounds p' vx):=by
      have t0:=hl.tmps.mono hran.gle hran.ile
      have t1:=TmpR.put (a:=a) (dst:=some p) (v:= .int .i64 i) (cv:= .int .i64 i) t0 (by simp[VR]) (by have:=hl.size;simp;omega)
      exact TmpR.put (a:=⟨a.tmps.setIfInBounds p (.int .i64 i),a.defers⟩) (dst:=some p') t1 hvx (by have:=hl.size;simp;omega)
     have hlive:Live nt 0 G' I' ⟨upd (upd s.ts p (.int .i64 i)) p' xv,h',clk'⟩ {tmps:=(ps.zip #[.int .i64 i,vx]).foldl (fun t (p,v)=>t.setIfInBounds p v) a.tmps,defers:=[]} W:=by
      rw[v4y hps]
      exact⟨Nat.zero_le _,⟨fun d hd=>by simp at hd, .nil⟩,by have:=hl.size;simp;omega,htm,hran.rel⟩
     refine hE (some (w.heap.size + 1)) nt 0 mu al base n assign a' n1 _ .norm s1 ha (.inr hna) hea (j1 hbase h5) G' I' W _ q _ hlive h3 fun a1 w1 G1 I1 k1 k2 k3 k4 k5=> ?_
     have hran1':Ran base s.clk G I s.h w G1 I1 s1.h w1:=hran.trans k2 (x7 _) (by exact h4)
     have hL2:=k2.odd hran.rel h6 q4n
     have hK2:=k2.odd hran.rel h7 q1j
     refine⟨_,run_beginRound hL2 (by rw[hrec]), ?_⟩
     have hran2:=hran1'.putObj (o':= .loop {rec .ready none with state:= .busy}) hL2 q4n (by omega)
     have hL3:(w1.putObj (w.heap.size + 1) (.loop {rec .ready none with state:= .busy})).heap[w.heap.size + 1]? =some (.loop {rec .ready none with state:= .busy}):=World.putObj_heap_same (Array.getElem?_eq_some_iff.1 hL2).1
     have hK3:(w1.putObj (w.heap.size + 1) (.loop {rec .ready none with state:= .busy})).heap[w.heap.size]? =some (.deferred (some [])):=(World.putObj_heap_other (by omega)).trans hK2
     have hlive2:Live nt 0 G1 I1 s1 a1 (w1.putObj (w.heap.size + 1) (.loop {rec .ready none with state:= .busy})):=by
      refine⟨Nat.zero_le _,⟨fun d hd=> ?_,k1.dfr.2⟩,k1.size,k1.tmps,hran2.rel⟩
      obtain⟨r,g1,g2,g3⟩:=k1.dfr.1 d hd
      refine⟨r,g1,g2, ?_⟩
      rw[World.putObj_heap_other]
      ·exact g3
      ·intro e
       subst e
       rw[hL2] at g3
       simp at g3
     refine hE (some (w.heap.size + 1)) nt 0 mu al base n1 body b' n2 s1 .norm s2 hb (.inr hnb) heb (j1 hbase (j1 h5 k5)) G1 I1 _ a1 q _ hlive2 k3 fun a2 w2 G2 I2 m1 m2 m3 m4 m5=> ?_
     have hran3:=hran2.trans m2 (x7 _) (j1 h4 k4)
     have hL4:=m2.odd hran2.rel hL3 q4n
     have hK4:=m2.odd hran2.rel hK3 q1j
     refine⟨_,_,run_endRound none hL4,rfl,G2,I2,s2.h,s2.clk,h1,hran3.putObj hL4 q4n (by omega),m3,j1 h4 (j1 k4 m4),j1 h5 (j1 k5 m5), ?_,(World.putObj_heap_other (by omega)).trans hK4⟩
     rw[World.putObj_heap_same (Array.getElem?_eq_some_iff.1 hL4).1,hrec]
     rfl
    ·simp at h1
   ·simp at h1
  ·rintro e W ⟨⟨vv,rfl⟩,G',I',h',clk',h1,hran,h3,h4,h5,h6,h7⟩
   simp only[q1f,Option.some.injEq] at h1
   subst h1
   refine⟨_,_,run_endLoop h6 (by rw[hrec];simp), ?_⟩
   rw[hrec]
   simp only
   have hranE:=hran.putObj (o':= .loop {rec .ready none with state:= .exhausted}) h6 q4n (by omega)
   rw[hrec] at hranE
   refine hQ _ _ G' I' ⟨?_,⟨fun d hd=> ?_, ?_⟩,hl.size,hl.tmps.mono hran.gle hran.ile,hranE.rel⟩ hranE h3 h4 h5
   ·rw[World.putObj_size]
    exact j1 hl.bnd hran.fr.size
   ·rcases List.mem_cons.1 hd with rfl | hd
    ·exact⟨w.heap.size,rfl,hl.bnd,(World.putObj_heap_other (by omega)).trans h7⟩
    ·obtain⟨r,g1,g2,g3⟩:=hl.dfr.1 d hd
     have hlt2:=(Array.getElem?_eq_some_iff.1 g3).1
     refine⟨r,g1,g2,(World.putObj_heap_other (by omega)).trans ?_⟩
     exact hran.odd hl.rel g3 q1j
   ·refine List.pairwise_cons.2 ⟨fun d hd=> ?_,hl.dfr.2⟩
    obtain⟨r,g1,g2,g3⟩:=hl.dfr.1 d hd
    have hlt2:=(Array.getElem?_eq_some_iff.1 g3).1
    rw[g1]
    simp only[ne_eq,Target.collected.injEq]
    omega
end
section
variable {P:Program} {G:Ghost} {I:Imm} {h:List AObj} {w:World}
def q0m (P:Program) (Γ:AProg):Prop:=∀ k,Γ.iters.contains k=true→j9g P k∧∀ args w,(callFunc k args).run P w= .ok (.enter k args) w
theorem Came.trans {base nt B lo:Nat} {s s1 s':St} {G1:Ghost} {I1:Imm} {w1:World} {K:Act→World→Prop} (hQ:Came base nt B lo G I s w s' K) (hran:Ran base lo G I s.h w G1 I1 s1.h w1) (hc:s.clk≤s1.clk) (hlo:lo≤s.clk) (hl:s.h.length≤s1.h.length):
  Came base nt B s1.clk G1 I1 s1 w1 s' K:=fun a' w' G' I' h1 h2 h3 h4 h5=>
 hQ a' w' G' I' h1 (hran.trans h2 (x7 _) (by omega)) h3 (by omega) (by omega)
theorem v4z {Γ:AProg} {back:Nat→Option Nat} {nt:Nat} {mu:Nat→Nat→Bool} {al:Nat→Nat} {r:Option Nat} {q B base n n' k:Nat} {body:Code} {b:ACode} (hE:∀ j,j < k→x2g P back (z3q Γ j)) (hb:z8i P back nt mu al n body=some (b,n')) (hno:r=none∨b.noRange=true):
  ∀ j,j≤k→∀ (s:St) (e:AEx) (s':St),z3q Γ j base (.loop b) s=some (e,s')→base≤s.h.length→∀ (G:Ghost) (I:Imm) (w:World) (a:Act) (Q:Exit→Act→World→Prop),Live nt B G I s a w→Fresh G s.clk→
    Came base nt B s.clk G I s w s' (Q (j2w e))→Code.roundsIn (q6y r) q P body Q j a w:=by
 intro j
 induction j with
 | zero=>intro _ s e s' hx;simp[z3q] at hx
 | succ j ih=>
   intro hj s e s' hx hbase G I w a Q hl hf hQ
   rw[roundsIn_succ]
   simp only[z3q] at hx
   split at hx
   ·rename_i s1 h1
    refine hE j (by omega) r nt B mu al base n body b n' s .norm s1 hb hno h1 hbase G I w a q _ hl hf fun a1 w1 G1 I1 g1 g2 g3 g4 g5=> ?_
    exact ih (by omega) s1 e s' hx (by omega) G1 I1 w1 a1 Q g1 g3 (hQ.trans g2 g4 (x7 _) g5)
   ·rename_i r' hr
    refine hE j (by omega) r nt B mu al base n body b n' s e s' hb hno hx hbase G I w a q _ hl hf fun a1 w1 G1 I1 g1 g2 g3 g4 g5=> ?_
    have hne:e≠ .norm:=fun he=>by
     subst he
     exact hr s' hx
    cases e with
    | norm=>exact absurd rfl hne
    | exit id=>exact hQ a1 w1 G1 I1 g1 g2 g3 g4 g5
    | ret=>exact hQ a1 w1 G1 I1 g1 g2 g3 g4 g5
theorem v5a {Γ:AProg} {back:Nat→Option Nat} {k:Nat} (hE:∀ j,j < k→x2g P back (z3q Γ j)) (hC:∀ j,j < k→q4m P (z0k (z3q Γ j) Γ)) (hB:q1b P back) (hD:x7l P back) (hR:q0m P Γ):x2g P back (z3q Γ k):=by
 intro r nt B mu al base n code c n' s e s' hc hno hx hbase G I w a q Q hl hf hQ
 cases k with
 | zero=>simp[z3q] at hx
 | succ k=>
   cases code with
   | skip=>
     simp only[z8i,Option.some.injEq,Prod.mk.injEq] at hc
     obtain⟨rfl,_⟩:=hc
     simp only[z3q,Option.some.injEq,Prod.mk.injEq] at hx
     obtain⟨rfl,rfl⟩:=hx
     exact wpIn_skip (hQ a w G I hl (Ran.refl hl.rel) hf (x7 _) (x7 _))
   | ret=>
     simp only[z8i,Option.some.injEq,Prod.mk.injEq] at hc
     obtain⟨rfl,_⟩:=hc
     simp only[z3q,Option.some.injEq,Prod.mk.injEq] at hx
     obtain⟨rfl,rfl⟩:=hx
     exact wpIn_ret (hQ a w G I hl (Ran.refl hl.rel) hf (x7 _) (x7 _))
   | exit id=>
     simp only[z8i,Option.some.injEq,Prod.mk.injEq] at hc
     obtain⟨rfl,_⟩:=hc
     simp only[z3q,Option.some.injEq,Prod.mk.injEq] at hx
     obtain⟨rfl,rfl⟩:=hx
     exact wpIn_exit (hQ a w G I hl (Ran.refl hl.rel) hf (x7 _) (x7 _))
   | region id ops draw=>
     simp only[z8i] at hc
     split at hc
     ·rename_i asx n1 hops
      have hm:=MadeAll.of hops
      have hCk:=hC k (by omega)
      split at hc
      ·rename_i hd
       subst hd
       split at hc
       ·rename_i hok
        simp only[Option.some.injEq,Prod.mk.injEq] at hc
        obtain⟨rfl,_⟩:=hc
        simp only[z3q,x5,Prod.mk.injEq] at hx
        obtain⟨s1,hr,rfl,rfl⟩:=hx
        simp only[y4] at hok
        exact hD Γ k nt B base _ _ id ops asx hCk hB hm hok.1.1 hok.1.2 hok.2 s s1 G I w a hr hl hf hbase r q Q hQ
       ·simp only[Option.some.injEq,Prod.mk.injEq] at hc
        obtain⟨rfl,_⟩:=hc
        simp[z3q] at hx
      ·rename_i hd
       have hd:draw=false:=by simpa using hd
       subst hd
       simp only[Option.some.injEq,Prod.mk.injEq] at hc
       obtain⟨rfl,_⟩:=hc
       simp only[z3q,x5,Prod.mk.injEq] at hx
       obtain⟨s1,hr,rfl,rfl⟩:=hx
       exact j9h hCk hB hm hr hl hf hbase hQ
     ·simp at hc
   | seq x y=>
     simp only[z8i] at hc
     split at hc
     ·rename_i x' n1 hx1
      simp only[x5,Prod.mk.injEq] at hc
      obtain⟨⟨y',n2⟩,hy1,rfl,_⟩:=hc
      simp only[z3q] at hx
      refine wpIn_seq ?_
      split at hx
      ·rename_i s1 h1
       refine hE k (by omega) r nt B mu al base n x x' n1 s .norm s1 hx1 (hno.imp id fun h=>(Bool.and_eq_true_iff.1 h).1) h1 hbase G I w a q _ hl hf fun a1 w1 G1 I1 g1 g2 g3 g4 g5=> ?_
       exact hE k (by omega) r nt B mu al base n1 y y' n2 s1 e s' hy1 (hno.imp id fun h=>(Bool.and_eq_true_iff.1 h).2) hx (by omega) G1 I1 w1 a1 q Q g1 g3 (hQ.trans g2 g4 (x7 _) g5)
      ·rename_i hr
       refine hE k (by omega) r nt B mu al base n x x' n1 s e s' hx1 (hno.imp id fun h=>(Bool.and_eq_true_iff.1 h).1) hx hbase G I w a q _ hl hf fun a1 w1 G1 I1 g1 g2 g3 g4 g5=> ?_
       cases e with
       | norm=>exact absurd hx (hr s')
       | exit id=>exact hQ a1 w1 G1 I1 g1 g2 g3 g4 g5
       | ret=>exact hQ a1 w1 G1 I1 g1 g2 g3 g4 g5
     ·simp at hc
   | cond qq x y=>
     simp only[z8i] at hc
     split at hc
     ·rename_i q' x' n1 hq' hx1
      simp only[x5,Prod.mk.injEq] at hc
      obtain⟨⟨y',n2⟩,hy1,rfl,_⟩:=hc
      simp only[z3q] at hx
      split at hx
      ·rename_i t heq
       have hv:=z1b hl.tmps.eval hq'
       rw[heq] at hv
       simp only[VR] at hv
       refine wpIn_cond hv ?_
       cases t with
       | true=>exact hE k (by omega) r nt B mu al base n x x' n1 s e s' hx1 (hno.imp id fun h=>(Bool.and_eq_true_iff.1 h).1) (by simpa using hx) hbase G I w a q Q hl hf hQ
       | false=>exact hE k (by omega) r nt B mu al base n1 y y' n2 s e s' hy1 (hno.imp id fun h=>(Bool.and_eq_true_iff.1 h).2) (by simpa using hx) hbase G I w a q Q hl hf hQ
      ·simp at hx
     ·simp at hc
   | block id x=>
     simp only[z8i,x5,Prod.mk.injEq] at hc
     obtain⟨⟨x',n1⟩,hx1,rfl,_⟩:=hc
     simp only[z3q] at hx
     refine wpIn_block ?_
     split at hx
     ·rename_i i s1 h1
      refine hE k (by omega) r nt B mu al base n x x' n1 s (.exit i) s1 hx1 hno h1 hbase G I w a q _ hl hf fun a1 w1 G1 I1 g1 g2 g3 g4 g5=> ?_
      split at hx
      ·rename_i hi
       simp only[Option.some.injEq,Prod.mk.injEq] at hx
       obtain⟨rfl,rfl⟩:=hx
       subst hi
       simp only[j2w,Exit.inBlock,if_true]
       exact hQ a1 w1 G1 I1 g1 g2 g3 g4 g5
      ·rename_i hi
       simp only[Option.some.injEq,Prod.mk.injEq] at hx
       obtain⟨rfl,rfl⟩:=hx
       simp only[j2w,Exit.inBlock,if_neg hi]
       exact hQ a1 w1 G1 I1 g1 g2 g3 g4 g5
     ·rename_i hr
      refine hE k (by omega) r nt B mu al base n x x' n1 s e s' hx1 hno hx hbase G I w a q _ hl hf fun a1 w1 G1 I1 g1 g2 g3 g4 g5=> ?_
      cases e with
      | norm=>exact hQ a1 w1 G1 I1 g1 g2 g3 g4 g5
      | exit i=>exact absurd hx (hr i s')
      | ret=>exact hQ a1 w1 G1 I1 g1 g2 g3 g4 g5
   | loop x=>
     simp only[z8i,x5,Prod.mk.injEq] at hc
     obtain⟨⟨x',n1⟩,hx1,rfl,_⟩:=hc
     exact wpIn_loop_rounds (k + 1) (v4z hE hx1 hno (k + 1) (x7 _) s e s' hx hbase G I w a Q hl hf hQ)
   | rangeFunc f ps x y=>
     simp only[z8i] at hc
     split at hc
     ·rename_i x1 p p' a1 n1 hf1 hps ha
      simp only[x5,Prod.mk.injEq] at hc
      obtain⟨⟨y',n2⟩,hy1,rfl,_⟩:=hc
      by_cases hnr:(a1.noRange && y'.noRange && (decide (p < nt) && decide (p' < nt)))=true
      case neg=>
       rw[if_neg hnr] at hx
       simp[z3q] at hx
      rw[if_pos hnr] at hx hno
      obtain rfl:r=none:=hno.resolve_right (by simp[ACode.noRange])
      simp only[y4,decide_eq_true_eq] at hnr
      simp only[z3q] at hx
      split at hx
      ·rename_i kf v heq
       split at hx
       ·rename_i len hlen
        split at hx
        ·rename_i hit
         simp only[x5,Prod.mk.injEq] at hx
         obtain⟨m,hr,rfl,rfl⟩:=hx
         obtain⟨hI,hk⟩:=hR kf hit
         exact k5g (hE k (by omega)) hf1 hps ha hy1 hnr.1.1 hnr.1.2 hnr.2.1 hnr.2.2 heq hlen hI hk hr hbase hl hf hQ
        ·simp at hx
       ·simp at hx
      ·simp at hx
     ·simp at hc
   | _=>
     simp only[z8i,Option.some.injEq,Prod.mk.injEq] at hc
     obtain⟨rfl,_⟩:=hc
     simp[z3q] at hx
end
section
variable {P:Program} {G:Ghost} {I:Imm} {h:List AObj} {w:World}
def ExtPost (G:Ghost) (I:Imm) (w:World) (v:AV) (cv:Value) (w':World):Prop:=
 ∃ I',ILe I I'∧VR G I' v cv∧(∀ (b:Nat) (y:Obj),w.heap[b]? =some y→w'.heap[b]? =some y)∧w'.os=w.os∧w'.tape=w.tape∧w'.output=w.output∧w.heap.size≤w'.heap.size∧
     ∀ b o v,I' b o=some v→I b o=some v∨(w.heap.size≤b∧w'.cell? ⟨b,o,none⟩=some v)
theorem ExtPost.ran {v:AV} {cv:Value} {w':World} {base clk:Nat} (rel:Rel G I h w) (he:ExtPost G I w v cv w'):∃ I',VR G I' v cv∧Ran base clk G I h w G I' h w':=by
 obtain⟨I',hI,hv,hold,h1,h2,h3,h4,h5⟩:=he
 have hother:∀ b o v,b < w.heap.size→I' b o=some v→I b o=some v:=fun b o v hb hv=>(h5 b o v hv).resolve_right fun hc=>by omega
 have hrel:Rel G I' h w':=by
  refine⟨fun b o v hv=> ?_,fun i o ho=> ?_,rel.inj⟩
  ·rcases h5 b o v hv with g1 | ⟨_,g1⟩
   ·exact z4x (rel.imm b o v g1) (hold _)
   ·exact g1
  ·have hob:=rel.obj i o ho
   refine hob.shift (GLe.refl _) hI (fun b hb=> ?_) fun b hb o v hv=>hother b o v (z9q hob hb) hv
   obtain⟨y,hy⟩:=q1h hob hb
   rw[hy,hold b y hy]
 have hfr:Fr G h w w':=⟨h1,h2,h3,h4,fun b hb _=>by rw[hold b w.heap[b] (Array.getElem?_eq_getElem hb),Array.getElem?_eq_getElem hb]⟩
 exact⟨I',hv,hrel,GLe.refl _,hI,fun g i h1 h2=>by rw[h1] at h2;simp at h2,OwnLe.refl _ _ _,hfr,fun b hb _ o v hv=>hother b o v hb hv⟩
structure ProgOk (P:Program) (back:Nat→Option Nat) (Γ:AProg):Prop where
 fn:∀ f af,Γ.fn f=some af→∃ hint,cFun P back hint (real f)=some af
 ext:∀ f sem,Γ.ext f=some sem→∀ asx v,sem asx=some v→∀ G I w (cargs:Array Value),VRL G I asx cargs.toList→(∀ b o v,I b o=some v→w.cell? ⟨b,o,none⟩=some v)→(∃ clk,Fresh G clk)→CallRes P (real f) cargs w (ExtPost G I w v)
theorem k5h {asx:List AV} {cargs:Array Value} {n:Nat} (ha:VRL G I asx cargs.toList):TmpR G I (q0f asx) (cargs++Array.replicate n undef):=by
 obtain⟨h1,h2⟩:=z9j.1 ha
 intro t
 simp only[q0f]
 by_cases ht:t < asx.length
 ·have hc:t < cargs.size:=by
   rw[h1] at ht
   simpa using ht
  have hv:=h2 t asx[t] cargs[t] (v9 ht) (by simp[hc])
  have e1:asx.getD t AV.undef=asx[t]:=by simp[List.getD,v9 ht]
  have e2:(cargs++Array.replicate n undef).getD t undef=cargs[t]:=by
   rw[Array.getD_eq_getD_getElem?,Array.getElem?_append_left hc,Array.getElem?_eq_getElem hc]
   rfl
  rw[e1,e2]
  exact hv
 ·have e1:asx.getD t AV.undef= .undef:=by simp[List.getD,List.getElem?_eq_none (Nat.le_of_not_lt ht)]
  rw[e1]
  simp[VR]
def k5i (tmps:Array Value):ResultVar→Sem Value
 | .tmp t=>pure (tmps.getD t undef)
 | .cell a t=>do loadVar t (←asAddr (tmps.getD a undef))
theorem j6j (fn:Func) (tmps:Array Value):results fn tmps=(do
  let vs←fn.results.mapM (k5i tmps)
  pure (if h:vs.size=1 then vs[0] else .tuple vs)):=by
 unfold results
 congr 1
theorem q3n {s:St} {tmps:Array Value} (ht:TmpR G I s.ts tmps) (rel:Rel G I s.h w):∀ {rvs:List ResultVar} {rs:List ARes} {vs:List AV},v0z P rvs=some rs→z1s s.h s.ts rs=some vs→
  ∃ cvs,(rvs.mapM (k5i tmps)).run P w= .ok cvs w∧VRL G I vs cvs
 | [],rs,vs,hc,hr=>by
   simp[v0z] at hc
   subst hc
   simp[z1s] at hr
   subst hr
   exact⟨[],by simp,by simp[VRL]⟩
 | .tmp t::rvs,rs,vs,hc,hr=>by
   simp only[v0z,x5] at hc
   obtain⟨rs',hc,rfl⟩:=hc
   simp only[z1s,x5] at hr
   obtain⟨vs',hr,rfl⟩:=hr
   obtain⟨cvs,h1,h2⟩:=q3n ht rel hc hr
   refine⟨tmps.getD t undef::cvs, ?_,by simp only[VRL];exact⟨_,_,rfl,ht t,h2⟩⟩
   rw[List.mapM_cons]
   simp only[k5i,Sem.run_bind,Sem.run_pure,Result.andThen,h1]
 | .cell a t::rvs,rs,vs,hc,hr=>by
   simp only[v0z] at hc
   split at hc
   ·rename_i sz rs' hsz hc'
    simp only[Option.some.injEq] at hc
    subst hc
    simp only[z1s] at hr
    split at hr
    ·rename_i sl g i o heq
     split at hr
     ·rename_i es row grow fz hb
      split at hr
      ·rename_i v hv
       simp only[x5] at hr
       obtain⟨vs',hr,rfl⟩:=hr
       obtain⟨cvs,h1,h2⟩:=q3n ht rel hc' hr
       cases he:es[i]? with
       | none=>simp[he] at hv
       | some e=>
         simp only[he,Option.bind_some] at hv
         have hp:=ht a
         rw[heq] at hp
         simp only[VR] at hp
         obtain⟨gi,hgi,_,hp⟩:=hp
         obtain⟨gi',cs,ty,hgi',_,hw,_,_,_,_,_,hE,_⟩:=rel.obj sl _ (z8z hb)
         obtain rfl:gi=gi':=by rw[hgi] at hgi';simpa using hgi'
         obtain⟨cv,h3,h4⟩:=q0i (P:=P) (x1y hw hE he) hsz hv
         refine⟨cv::cvs, ?_,by simp only[VRL];exact⟨_,_,rfl,h4,h2⟩⟩
         rw[List.mapM_cons]
         simp only[k5i,Sem.run_bind,Sem.run_pure,Result.andThen,h1,hp,asAddr,h3]
      ·simp at hr
     ·simp at hr
    ·simp at hr
   ·simp at hc
theorem j6k {fn:Func} {s:St} {tmps:Array Value} {rs:List ARes} {vs:List AV} (ht:TmpR G I s.ts tmps) (rel:Rel G I s.h w) (hc:v0z P fn.results.toList=some rs) (hr:z1s s.h s.ts rs=some vs):
  ∃ cv,(results fn tmps).run P w= .ok cv w∧VR G I (z1k vs) cv:=by
 obtain⟨cvs,h1,h2⟩:=q3n (P:=P) ht rel hc hr
 have hl:=(z9j.1 h2).1
 rw[j6j,Array.mapM_eq_mapM_toList,map_eq_pure_bind]
 refine⟨if h:cvs.toArray.size=1 then cvs.toArray[0] else .tuple cvs.toArray, ?_, ?_⟩
 ·simp only[Sem.run_bind,h1,Result.andThen,Sem.run_pure]
 ·match vs,cvs,h2 with
  | [],cvs,h2=>
    simp only[VRL] at h2
    subst h2
    simp[z1k,VR,VRL]
  | [v],cvs,h2=>
    simp only[VRL] at h2
    obtain⟨u,ws,rfl,h4,rfl⟩:=h2
    simpa [z1k] using h4
  | v::v'::vs,cvs,h2=>
    have h2':=h2
    simp only[VRL] at h2
    obtain⟨u,ws,rfl,h4,u',ws',rfl,h5,h6⟩:=h2
    simp[z1k,VR]
    simpa using h2'
theorem z5r {f:Nat} {fn:Func} {c:Code} {cargs:Array Value} (hf:P.funcs[f]? =some fn) (hb:fn.body=some c) (hn:fn.name≠ "runtime.NumGoroutine"):(callFunc f cargs).run P w= .ok (.enter f cargs) w:=by
 unfold callFunc
 simp[hf,hb,hn]
structure Shut (B:Nat) (w w':World):Prop where
 os:w'.os=w.os
 tape:w'.tape=w.tape
 output:w'.output=w.output
 size:w'.heap.size=w.heap.size
 kept:∀ b,(b < B∨∀ x,w.heap[b]? ≠some (.deferred x))→w'.heap[b]? =w.heap[b]?
theorem Shut.refl (B:Nat) (w:World):Shut B w w:=⟨rfl,rfl,rfl,rfl,fun _ _=>rfl⟩
theorem Shut.rel {B:Nat} {w':World} (hs:Shut B w w') (r:Rel G I h w):Rel G I h w':=by
 refine⟨fun b o v hv=> ?_,fun i o ho=> ?_,r.inj⟩
 ·have hc:=r.imm b o v hv
  refine z4x hc fun x hx=> ?_
  rw[hs.kept b (.inr fun y hy=> ?_)]
  ·exact hx
  ·unfold World.cell? at hc
   simp only at hx hc
   rw[hx] at hy
   simp only[Option.some.injEq] at hy
   subst hy
   rw[hx] at hc
   simp at hc
 ·exact (r.obj i o ho).world fun b hb=>hs.kept b (.inr (x7k (r.obj i o ho) hb))
theorem Shut.ran {base clk:Nat} {G':Ghost} {I':Imm} {h':List AObj} {w1 w2:World} (hs:Shut w.heap.size w1 w2) (r:Ran base clk G I h w G' I' h' w1):Ran base clk G I h w G' I' h' w2:=
 ⟨hs.rel r.rel,r.gle,r.ile,r.slots,r.own,⟨hs.os.trans r.fr.os,hs.tape.trans r.fr.tape,hs.output.trans r.fr.output,by rw[hs.size];exact r.fr.size,fun b hb hn=>by rw[hs.kept b (.inl hb)];exact r.fr.kept b hb hn⟩,r.ifr⟩
theorem q3o {B n:Nat} {fn:Func} {tmps:Array Value} {R:Ending→World→Prop}:∀ {ds:List Deferred} {w:World},Marks B ds w→(∀ w',Shut B w w'→∃ v,(results fn tmps).run P w'= .ok v w'∧R (.returned v) w')→LeavesInM (q6y none) n P fn tmps R ds .returning w
 | [],w,_,hR=>by
   simp only[LeavesInM,LeavesIn]
   exact hR w (Shut.refl B w)
 | d::ds,w,hm,hR=>by
   obtain⟨r,h1,h0,h2⟩:=hm.1 d List.mem_cons_self
   have hlt:r < w.heap.size:=(Array.getElem?_eq_some_iff.1 h2).1
   refine⟨by simp, .inl ⟨r,_,h1,run_takeDeferred h2,q3o (B:=B) ⟨fun d' hd'=> ?_,(List.pairwise_cons.1 hm.2).2⟩ fun w' hs=>hR w' ?_⟩⟩
   ·obtain⟨r',g1,g0,g2⟩:=hm.1 d' (List.mem_cons_of_mem _ hd')
    refine⟨r',g1,g0, ?_⟩
    have hne:r'≠r:=fun e=>(List.pairwise_cons.1 hm.2).1 d' hd' (by rw[h1,g1,e])
    exact (World.putObj_heap_other hne).trans g2
   ·refine⟨hs.os,hs.tape,hs.output,hs.size.trans (by simp[World.putObj]),fun b hb=> ?_⟩
    have hne:b≠r:=fun e=>by
     subst e
     rcases hb with hb | hb
     ·omega
     ·exact hb _ h2
    have hk:(w.putObj r (.deferred none)).heap[b]? =w.heap[b]? :=World.putObj_heap_other hne
    rw[hs.kept b (hb.imp id fun hb x=>by rw[hk];exact hb x),hk]
end
section
variable {P:Program} {G:Ghost} {I:Imm} {h:List AObj} {w:World}
mutual
theorem j2x:∀ {v:AV},v.flat=true→v.ids=[]
 | .undef,_=>rfl
 | .int ..,_=>rfl
 | .bool _,_=>rfl
 | .str _,_=>rfl
 | .agg cs,hf=>by
   simp only[AV.ids]
   exact q8w (by simpa only[AV.flat] using hf)
 | .tup cs,hf=>by
   simp only[AV.ids]
   exact q8w (by simpa only[AV.flat] using hf)
 | .sl _ _,hf=>by simp[AV.flat] at hf
 | .ob ..,hf=>by simp[AV.flat] at hf
 | .ptr ..,hf=>by simp[AV.flat] at hf
 | .iptr _ _,hf=>by simp[AV.flat] at hf
 | .nilptr,hf=>by simp[AV.flat] at hf
 | .mp ..,hf=>by simp[AV.flat] at hf
 | .nilmap,hf=>by simp[AV.flat] at hf
 | .fn _ _,hf=>by simp[AV.flat] at hf
 | .nilfn,hf=>by simp[AV.flat] at hf
 | .nilif,hf=>by simp[AV.flat] at hf
 | .bwd _ _,hf=>by simp[AV.flat] at hf
theorem q8w:∀ {vs:List AV},x6m vs=true→z0i vs=[]
 | [],_=>rfl
 | v::vs,hf=>by
   simp only[x6m,y4] at hf
   simp only[z0i,j2x hf.1,q8w hf.2,w9]
end
theorem q4o:∀ {h h':List AObj} {k:Nat},z0n [] k h h'=h
 | [],[],_=>rfl
 | [],_::_,_=>rfl
 | o::h,[],_=>rfl
 | o::h,o'::h',k=>by simp[z0n,q4o]
theorem k5j {base clk:Nat} {I1:Imm} {h1:List AObj} (rel1:Rel G I1 h1 w) (hI:ILe I I1) (hN:NoNew G h I I1) (ho:∀ (i:Nat) o b,h1[i]? =some o→own G o=some b→∃ (j:Nat) (x:AObj),h[j]? =some x∧own G x=some b):Ran base clk G I h w G I1 h1 w:=
 ⟨rel1,GLe.refl _,hI,fun g i h1 h2=>by rw[h1] at h2;simp at h2,fun i o b hi hb=> .inl (ho i o b hi hb),Fr.refl _ _ _,hN.ifr⟩
theorem j9j {Γ:AProg} {back:Nat→Option Nat} {k:Nat} (hE:x2g P back (z3q Γ k)) (hΓ:ProgOk P back Γ):q4m P (z0k (z3q Γ k) Γ):=by
 intro f args h clk v h' clk' hc G I w cargs hargs rel hfresh
 unfold z0k at hc
 split at hc
 ·rename_i sem hsem
  split at hc
  ·rename_i asx hpass
   split at hc
   ·rename_i hlent
    simp only[x5,Prod.mk.injEq] at hc
    obtain⟨v0,hv0,rfl,rfl,rfl⟩:=hc
    obtain⟨I1,hI1,rel1,hvs,hN⟩:=q0l hpass hargs (Frozen.refl h) rel
    have hl:z0p [] 0 args=[]:=by simpa using hlent
    rw[hl] at rel1
    simp only[freezeAll] at rel1
    intro o a next Q hn
    refine hΓ.ext f sem hsem asx v0 hv0 G I1 w cargs hvs rel1.imm ⟨clk,hfresh⟩ o a next Q fun cv w' hp=>hn cv w' ?_
    obtain⟨I',hv,hran⟩:=hp.ran (base:=h.length) (clk:=clk) rel1
    exact⟨G,I',hv,(k5j rel1 hI1 hN fun i o b hi hb=>⟨i,o,hi,hb⟩).trans hran (x7 _) (x7 _),hfresh,x7 _,x7 _⟩
   ·simp at hc
  ·simp at hc
 ·split at hc
  ·simp at hc
  ·rename_i af haf
   split at hc
   ·simp at hc
   ·rename_i asx hpass
    obtain⟨hint,hcf⟩:=hΓ.fn f af haf
    unfold cFun at hcf
    split at hcf
    ·rename_i fn hfn
     split at hcf
     ·rename_i c hbody
      split at hcf
      ·rename_i c' n' rs hcode hres
       split at hcf
       ·simp at hcf
       ·rename_i hname
        simp only[Option.some.injEq] at hcf
        subst hcf
        simp only at hc
        obtain⟨I1,hI1,rel1,hvs,hN⟩:=q0l hpass hargs (Frozen.refl h) rel
        have hfrz:=z2d h (z0p hint.byref 0 args)
        generalize freezeAll h (z0p hint.byref 0 args)=hf at *
        generalize reach h (h.length + 1) [] (z0i asx)=T at *
        split at hc
        ·simp at hc
        ·simp at hc
        ·rename_i e s hnoexit hx
         split at hc
         ·simp at hc
         ·rename_i vs hvres
          split at hc
          ·simp at hc
          ·rename_i v0 hconv
           intro o a next Q hn
           rw[z5r hfn hbody hname,Oper.upon_enter]
           refine Calls.mono (R:=fun e w'=>∃ cv,e= .returned cv∧q7r G I h w clk v h' clk' cv w') ?_ (fun e w' he=>by
             obtain⟨cv,rfl,hp⟩:=he
             exact hn cv w' hp)
           refine j0c (r:=none) (n:=0) (callsIn_of_wp_marks hfn hbody trivial ?_ rfl)
           have hlive:Live fn.ntmps w.heap.size G I1 ⟨q0f asx,maskFrom T 0 hf++x3 n' .dead,clk⟩ {tmps:=cargs++Array.replicate (fn.ntmps - cargs.size) undef,defers:=[]} w:=
             ⟨x7 _,⟨fun d hd=>by simp at hd, .nil⟩,by simp;omega,k5h hvs,k5d rel1⟩
           refine hE none fn.ntmps w.heap.size _ _ h.length 0 c c' n' ⟨q0f asx,maskFrom T 0 hf++x3 n' .dead,clk⟩ e s hcode (.inl rfl) hx (by simp[z8l,hfrz.1]) G I1 w _ 0 _ hlive hfresh fun a' w1 G' I' k1 k2 g3 g4 g5=> ?_
           have hfin:∀ w',Shut w.heap.size w1 w'→∃ cv,(results fn a'.tmps).run P w'= .ok cv w'∧∃ cv',Ending.returned cv=Ending.returned cv'∧q7r G I h w clk v h' clk' cv' w':=by
            intro w' hshut
            have g2:=hshut.ran k2
            obtain⟨cv,hrun,hcv⟩:=j6k (P:=P) k1.tmps g2.rel hres hvres
            have hpost:q7r G I h w clk v h' clk' cv w':=by
              have hlen:h.length≤s.h.length:=by
               have:(maskFrom T 0 hf++x3 n' AObj.dead).length≤s.h.length:=g5
               simp only[k7,z8l,hfrz.1] at this
               omega
              obtain⟨I2,hI2,rel2,hv2,hN2,hfrz2⟩:∃ I2,ILe I' I2∧Rel G' I2 (if hint.owned=true then s.h else freezeAll s.h (z1k vs).obs) w'∧VR G' I2 v0 cv∧NoNew G' s.h I' I2∧Frozen s.h (if hint.owned=true then s.h else freezeAll s.h (z1k vs).obs):=by
               by_cases ho:hint.owned=true
               ·rw[if_pos ho] at hconv⊢
                simp only[Option.some.injEq] at hconv
                subst hconv
                exact⟨I',ILe.refl _,g2.rel,hcv,NoNew.refl,Frozen.refl _⟩
               ·rw[if_neg ho] at hconv⊢
                obtain⟨I2,a1,a2,a3,a4⟩:=q8h hconv hcv (Frozen.refl _) g2.rel
                exact⟨I2,a1,a2,a3,a4,z2d _ _⟩
              generalize (if hint.owned=true then s.h else freezeAll s.h (z1k vs).obs)=hr at *
              have left:Left T n' clk G I h w I1 hf G' I' s.h I2 hr w':=⟨hfrz,rel1,hI1,hN,g2,hlen,hfrz2,rel2,hI2,hN2⟩
              have hclk:clk≤s.clk:=g4
              by_cases hflat:(v0.flat && T.isEmpty)=true
              ·rw[if_pos hflat] at hc
               simp only[y4,List.isEmpty_iff] at hflat
               obtain⟨hfl,rfl⟩:=hflat
               rw[q4o,j2x hfl] at hc
               simp only[List.map_nil,List.flatten_nil,w9,List.all_nil,if_true,Option.some.injEq,Prod.mk.injEq] at hc
               obtain⟨rfl,rfl,rfl⟩:=hc
               have hkeep:∀ b,b < w.heap.size→w'.heap[b]? =w.heap[b]? :=fun b hb=>left.ran.fr.kept b hb fun i o hi ho=>by
                have:=(left.maskOwner hi ho).1
                simp at this
               refine⟨G,I,VR.flat hfl hv2,⟨rel.world fun b x hx=> ?_,GLe.refl _,ILe.refl _,fun g i h1 h2=>by rw[h1] at h2;simp at h2,OwnLe.refl _ _ _,⟨left.fr.os,left.fr.tape,left.fr.output,left.fr.size,fun b hb _=>hkeep b hb⟩,IFr.refl⟩,hfresh,x7 _,x7 _⟩
               rw[hkeep b (Array.getElem?_eq_some_iff.1 hx).1]
               exact hx
              ·rw[if_neg hflat] at hc
               have hml:(z0n T 0 hf hr).length=h.length:=by
                rw[z5v (by rw[left.lenf];exact left.lenr),left.lenf]
               split at hc
               ·rename_i hall
                simp only[Option.some.injEq,Prod.mk.injEq] at hc
                obtain⟨rfl,rfl,rfl⟩:=hc
                obtain⟨G2,b1,b2,b3⟩:=left.cut hfresh hv2 (fun q hq=>by simpa using List.all_eq_true.1 hall q hq)
                exact⟨G2,I2,b1,b2,b3,x7 _,by rw[hml];exact x7 _⟩
               ·simp only[Option.some.injEq,Prod.mk.injEq] at hc
                obtain⟨rfl,rfl,rfl⟩:=hc
                exact⟨G',I2,hv2,left.all,g3,hclk,by simp[hml]⟩
            exact⟨cv,hrun,cv,rfl,hpost⟩
           cases e with
           | norm=>exact q3o k1.dfr hfin
           | ret=>exact q3o k1.dfr hfin
           | exit id=>exact (hnoexit id rfl).elim
      ·simp at hcf
     ·simp at hcf
    ·simp at hcf
theorem y4r {Γ:AProg} {back:Nat→Option Nat} (hΓ:ProgOk P back Γ) (hB:q1b P back) (hD:x7l P back) (hR:q0m P Γ) (k:Nat):x2g P back (z3q Γ k):=by
 induction k using Nat.strongRecOn with
 | ind k ih=>exact v5a ih (fun j hj=>j9j (ih j hj) hΓ) hB hD hR
theorem q5w {Γ:AProg} {back:Nat→Option Nat} (hΓ:ProgOk P back Γ) (hB:q1b P back) (hD:x7l P back) (hR:q0m P Γ) (k:Nat):q4m P (z5w Γ k):=j9j (y4r hΓ hB hD hR k) hΓ
end
end Go.Proofs.YtkollgjffkdliaaGreatDoor.Am
