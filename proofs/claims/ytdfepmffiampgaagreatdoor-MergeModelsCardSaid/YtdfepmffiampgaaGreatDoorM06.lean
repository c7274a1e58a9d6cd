/- Calls of the abstract machine: what is handed over and given back Calls of the abstract machine: the heap that a call leaves The abstract machine's code stands for the model's: operations one after th -/
import Derived.OrdersIn
import Derived.LoopNIn
import Derived.RangeFuncLeaves
import Derived.RangeFuncRecord
import Derived.RangeFuncSeq
import Derived.Test.YtdfepmffiampgaaGreatDoorM05
set_option linter.all false
namespace Go.Proofs.YtdfepmffiampgaaGreatDoor.Am
open Go
set_option maxRecDepth 100000
section
def j0v (G G':Ghost) (n:Nat):Prop:=∀ g i,G g=some i→i.slot < n→G' g=some i
theorem q4v {v:AV}:∀ {vs:List AV},v∈vs→∀ s∈v.ids,s∈idsL vs
 | [],hv,_,_=>by simp at hv
 | x::xs,hv,s,hs=>by
   simp only[idsL,List.mem_append]
   rcases List.mem_cons.1 hv with rfl | hv
   ·exact .inl hs
   ·exact .inr (q4v hv s hs)
mutual
theorem VR.keep {G G':Ghost} {I:Imm} {n:Nat} (hk:j0v G G' n):∀ {x:AV} {v:Value},(∀ s∈x.ids,s < n)→VR G I x v→VR G' I x v
 | .undef,_,_,_=>by simp[VR]
 | .int ..,_,_,h=>by simpa [VR] using h
 | .bool _,_,_,h=>by simpa [VR] using h
 | .str _,_,_,h=>by simpa only[VR] using h
 | .agg _,_,hi,h=>by
   simp only[VR] at h⊢
   obtain⟨vs,rfl,h⟩:=h
   exact⟨vs,rfl,VRL.keep hk (by simpa only[AV.ids] using hi) h⟩
 | .tup _,_,hi,h=>by
   simp only[VR] at h⊢
   obtain⟨vs,rfl,h⟩:=h
   exact⟨vs,rfl,VRL.keep hk (by simpa only[AV.ids] using hi) h⟩
 | .sl xs t,_,hi,h=>by
   simp only[VR] at h⊢
   obtain⟨A,m,c,rfl,h1,h2,h3,h4⟩:=h
   refine⟨A,m,c,rfl,h1,h2, ?_, ?_⟩
   ·cases t with
    | «at» s g=>
      obtain⟨i,g1,g2,g3⟩:=h3
      exact⟨i,hk g i g1 (by rw[g2];exact hi s (by simp[AV.ids])),g2,g3⟩
    | no=>exact h3
    | full=>exact h3
    | nil=>exact h3
    | nn=>exact h3
   ·rcases h4 with h4 | ⟨b,o,e,h5,h6,h7⟩
    ·exact .inl h4
    ·exact .inr ⟨b,o,e,h5,h6,RowI.keep hk (fun s hs=>hi s (by simp only[AV.ids,List.mem_append];exact .inr hs)) h7⟩
 | .ob s ..,_,hi,h=>by
   simp only[VR] at h⊢
   obtain⟨i,A,c,h1,h2,h3⟩:=h
   exact⟨i,A,c,hk _ i h1 (by rw[h2];exact hi s (by simp[AV.ids])),h2,h3⟩
 | .ptr s ..,_,hi,h=>by
   simp only[VR] at h⊢
   obtain⟨i,h1,h2,h3⟩:=h
   exact⟨i,hk _ i h1 (by rw[h2];exact hi s (by simp[AV.ids])),h2,h3⟩
 | .iptr _ _,_,hi,h=>by
   simp only[VR] at h⊢
   obtain⟨b,p,rfl,h⟩:=h
   exact⟨b,p,rfl,CellsI.keep hk (by simpa only[AV.ids] using hi) h⟩
 | .nilptr,_,_,h=>by simpa [VR] using h
 | .mp s _,_,hi,h=>by
   simp only[VR] at h⊢
   obtain⟨i,h1,h2,h3⟩:=h
   exact⟨i,hk _ i h1 (by rw[h2];exact hi s (by simp[AV.ids])),h2,h3⟩
 | .nilmap,_,_,h=>by simpa [VR] using h
 | .fn _ _,_,hi,h=>by
   simp only[VR] at h⊢
   obtain⟨vs,rfl,h⟩:=h
   exact⟨vs,rfl,VRL.keep hk (by simpa only[AV.ids] using hi) h⟩
 | .nilfn,_,_,h=>by simpa [VR] using h
 | .nilif,_,_,h=>by simpa [VR] using h
 | .bwd _ _,_,hi,h=>by
   simp only[VR] at h⊢
   obtain⟨b,y,rfl,h1,h2⟩:=h
   exact⟨b,y,rfl,h1,VR.keep hk (by simpa only[AV.ids] using hi) h2⟩
theorem VRL.keep {G G':Ghost} {I:Imm} {n:Nat} (hk:j0v G G' n):∀ {xs:List AV} {vs:List Value},(∀ s∈idsL xs,s < n)→VRL G I xs vs→VRL G' I xs vs
 | [],_,_,h=>by simpa [VRL] using h
 | _::_,_,hi,h=>by
   simp only[VRL] at h⊢
   obtain⟨v,ws,rfl,h1,h2⟩:=h
   exact⟨v,ws,rfl,VR.keep hk (fun s hs=>hi s (by simp only[idsL,List.mem_append];exact .inl hs)) h1,VRL.keep hk (fun s hs=>hi s (by simp only[idsL,List.mem_append];exact .inr hs)) h2⟩
theorem RowI.keep {G G':Ghost} {I:Imm} {n:Nat} (hk:j0v G G' n):∀ {xs:List AV} {b o e:Nat},(∀ s∈idsL xs,s < n)→RowI G I xs b o e→RowI G' I xs b o e
 | [],_,_,_,_,_=>j3d
 | .agg _::_,_,_,_,hi,h=>by
   simp only[RowI] at h⊢
   exact⟨h.1,CellsI.keep hk (fun s hs=>hi s (by simp only[idsL,AV.ids,List.mem_append];exact .inl hs)) h.2.1,RowI.keep hk (fun s hs=>hi s (by simp only[idsL,List.mem_append];exact .inr hs)) h.2.2⟩
 | .undef::_,_,_,_,hi,h=>by
   simp only[RowI] at h⊢
   obtain⟨h1,⟨v,h2,h3⟩,h4⟩:=h
   exact⟨h1,⟨v,h2,VR.keep hk (fun s hs=>hi s (by simp only[idsL,List.mem_append];exact .inl hs)) h3⟩,RowI.keep hk (fun s hs=>hi s (by simp only[idsL,List.mem_append];exact .inr hs)) h4⟩
 | .int .. ::_,_,_,_,hi,h=>by
   simp only[RowI] at h⊢
   obtain⟨h1,⟨v,h2,h3⟩,h4⟩:=h
   exact⟨h1,⟨v,h2,VR.keep hk (fun s hs=>hi s (by simp only[idsL,List.mem_append];exact .inl hs)) h3⟩,RowI.keep hk (fun s hs=>hi s (by simp only[idsL,List.mem_append];exact .inr hs)) h4⟩
 | .bool _::_,_,_,_,hi,h=>by
   simp only[RowI] at h⊢
   obtain⟨h1,⟨v,h2,h3⟩,h4⟩:=h
   exact⟨h1,⟨v,h2,VR.keep hk (fun s hs=>hi s (by simp only[idsL,List.mem_append];exact .inl hs)) h3⟩,RowI.keep hk (fun s hs=>hi s (by simp only[idsL,List.mem_append];exact .inr hs)) h4⟩
 | .str _::_,_,_,_,hi,h=>by
   simp only[RowI] at h⊢
   obtain⟨h1,⟨v,h2,h3⟩,h4⟩:=h
   exact⟨h1,⟨v,h2,VR.keep hk (fun s hs=>hi s (by simp only[idsL,List.mem_append];exact .inl hs)) h3⟩,RowI.keep hk (fun s hs=>hi s (by simp only[idsL,List.mem_append];exact .inr hs)) h4⟩
 | .tup _::_,_,_,_,hi,h=>by
   simp only[RowI] at h⊢
   obtain⟨h1,⟨v,h2,h3⟩,h4⟩:=h
   exact⟨h1,⟨v,h2,VR.keep hk (fun s hs=>hi s (by simp only[idsL,List.mem_append];exact .inl hs)) h3⟩,RowI.keep hk (fun s hs=>hi s (by simp only[idsL,List.mem_append];exact .inr hs)) h4⟩
 | .sl _ _::_,_,_,_,hi,h=>by
   simp only[RowI] at h⊢
   obtain⟨h1,⟨v,h2,h3⟩,h4⟩:=h
   exact⟨h1,⟨v,h2,VR.keep hk (fun s hs=>hi s (by simp only[idsL,List.mem_append];exact .inl hs)) h3⟩,RowI.keep hk (fun s hs=>hi s (by simp only[idsL,List.mem_append];exact .inr hs)) h4⟩
 | .ob .. ::_,_,_,_,hi,h=>by
   simp only[RowI] at h⊢
   obtain⟨h1,⟨v,h2,h3⟩,h4⟩:=h
   exact⟨h1,⟨v,h2,VR.keep hk (fun s hs=>hi s (by simp only[idsL,List.mem_append];exact .inl hs)) h3⟩,RowI.keep hk (fun s hs=>hi s (by simp only[idsL,List.mem_append];exact .inr hs)) h4⟩
 | .ptr .. ::_,_,_,_,hi,h=>by
   simp only[RowI] at h⊢
   obtain⟨h1,⟨v,h2,h3⟩,h4⟩:=h
   exact⟨h1,⟨v,h2,VR.keep hk (fun s hs=>hi s (by simp only[idsL,List.mem_append];exact .inl hs)) h3⟩,RowI.keep hk (fun s hs=>hi s (by simp only[idsL,List.mem_append];exact .inr hs)) h4⟩
 | .iptr _ _::_,_,_,_,hi,h=>by
   simp only[RowI] at h⊢
   obtain⟨h1,⟨v,h2,h3⟩,h4⟩:=h
   exact⟨h1,⟨v,h2,VR.keep hk (fun s hs=>hi s (by simp only[idsL,List.mem_append];exact .inl hs)) h3⟩,RowI.keep hk (fun s hs=>hi s (by simp only[idsL,List.mem_append];exact .inr hs)) h4⟩
 | .nilptr::_,_,_,_,hi,h=>by
   simp only[RowI] at h⊢
   obtain⟨h1,⟨v,h2,h3⟩,h4⟩:=h
   exact⟨h1,⟨v,h2,VR.keep hk (fun s hs=>hi s (by simp only[idsL,List.mem_append];exact .inl hs)) h3⟩,RowI.keep hk (fun s hs=>hi s (by simp only[idsL,List.mem_append];exact .inr hs)) h4⟩
 | .mp .. ::_,_,_,_,hi,h=>by
   simp only[RowI] at h⊢
   obtain⟨h1,⟨v,h2,h3⟩,h4⟩:=h
   exact⟨h1,⟨v,h2,VR.keep hk (fun s hs=>hi s (by simp only[idsL,List.mem_append];exact .inl hs)) h3⟩,RowI.keep hk (fun s hs=>hi s (by simp only[idsL,List.mem_append];exact .inr hs)) h4⟩
 | .nilmap::_,_,_,_,hi,h=>by
   simp only[RowI] at h⊢
   obtain⟨h1,⟨v,h2,h3⟩,h4⟩:=h
   exact⟨h1,⟨v,h2,VR.keep hk (fun s hs=>hi s (by simp only[idsL,List.mem_append];exact .inl hs)) h3⟩,RowI.keep hk (fun s hs=>hi s (by simp only[idsL,List.mem_append];exact .inr hs)) h4⟩
 | .fn _ _::_,_,_,_,hi,h=>by
   simp only[RowI] at h⊢
   obtain⟨h1,⟨v,h2,h3⟩,h4⟩:=h
   exact⟨h1,⟨v,h2,VR.keep hk (fun s hs=>hi s (by simp only[idsL,List.mem_append];exact .inl hs)) h3⟩,RowI.keep hk (fun s hs=>hi s (by simp only[idsL,List.mem_append];exact .inr hs)) h4⟩
 | .nilfn::_,_,_,_,hi,h=>by
   simp only[RowI] at h⊢
   obtain⟨h1,⟨v,h2,h3⟩,h4⟩:=h
   exact⟨h1,⟨v,h2,VR.keep hk (fun s hs=>hi s (by simp only[idsL,List.mem_append];exact .inl hs)) h3⟩,RowI.keep hk (fun s hs=>hi s (by simp only[idsL,List.mem_append];exact .inr hs)) h4⟩
 | .nilif::_,_,_,_,hi,h=>by
   simp only[RowI] at h⊢
   obtain⟨h1,⟨v,h2,h3⟩,h4⟩:=h
   exact⟨h1,⟨v,h2,VR.keep hk (fun s hs=>hi s (by simp only[idsL,List.mem_append];exact .inl hs)) h3⟩,RowI.keep hk (fun s hs=>hi s (by simp only[idsL,List.mem_append];exact .inr hs)) h4⟩
 | .bwd _ _::_,_,_,_,hi,h=>by
   simp only[RowI] at h⊢
   obtain⟨h1,⟨v,h2,h3⟩,h4⟩:=h
   exact⟨h1,⟨v,h2,VR.keep hk (fun s hs=>hi s (by simp only[idsL,List.mem_append];exact .inl hs)) h3⟩,RowI.keep hk (fun s hs=>hi s (by simp only[idsL,List.mem_append];exact .inr hs)) h4⟩
theorem CellsI.keep {G G':Ghost} {I:Imm} {n:Nat} (hk:j0v G G' n):∀ {cs:List AV} {b o:Nat},(∀ s∈idsL cs,s < n)→CellsI G I cs b o→CellsI G' I cs b o
 | [],_,_,_,_=>q2w
 | _::_,_,_,hi,h=>by
   simp only[CellsI] at h⊢
   obtain⟨⟨v,h1,h2⟩,h3⟩:=h
   exact⟨⟨v,h1,VR.keep hk (fun s hs=>hi s (by simp only[idsL,List.mem_append];exact .inl hs)) h2⟩,CellsI.keep hk (fun s hs=>hi s (by simp only[idsL,List.mem_append];exact .inr hs)) h3⟩
end
mutual
theorem VR.flat {G G':Ghost} {I I':Imm}:∀ {x:AV} {v:Value},x.flat=true→VR G I x v→VR G' I' x v
 | .undef,_,_,_=>by simp[VR]
 | .int ..,_,_,h=>by simpa [VR] using h
 | .bool _,_,_,h=>by simpa [VR] using h
 | .str _,_,_,h=>by simpa only[VR] using h
 | .agg _,_,hi,h=>by
   simp only[VR] at h⊢
   obtain⟨vs,rfl,h⟩:=h
   exact⟨vs,rfl,VRL.flat (by simpa only[AV.flat] using hi) h⟩
 | .tup _,_,hi,h=>by
   simp only[VR] at h⊢
   obtain⟨vs,rfl,h⟩:=h
   exact⟨vs,rfl,VRL.flat (by simpa only[AV.flat] using hi) h⟩
 | .sl _ _,_,hi,_=>by simp[AV.flat] at hi
 | .ob ..,_,hi,_=>by simp[AV.flat] at hi
 | .ptr ..,_,hi,_=>by simp[AV.flat] at hi
 | .iptr _ _,_,hi,_=>by simp[AV.flat] at hi
 | .nilptr,_,hi,_=>by simp[AV.flat] at hi
 | .mp ..,_,hi,_=>by simp[AV.flat] at hi
 | .nilmap,_,hi,_=>by simp[AV.flat] at hi
 | .fn _ _,_,hi,_=>by simp[AV.flat] at hi
 | .nilfn,_,hi,_=>by simp[AV.flat] at hi
 | .nilif,_,hi,_=>by simp[AV.flat] at hi
 | .bwd _ _,_,hi,_=>by simp[AV.flat] at hi
theorem VRL.flat {G G':Ghost} {I I':Imm}:∀ {xs:List AV} {vs:List Value},j0e xs=true→VRL G I xs vs→VRL G' I' xs vs
 | [],_,_,h=>by simpa [VRL] using h
 | _::_,_,hi,h=>by
   simp only[j0e,Bool.and_eq_true] at hi
   simp only[VRL] at h⊢
   obtain⟨v,ws,rfl,h1,h2⟩:=h
   exact⟨v,ws,rfl,VR.flat hi.1 h1,VRL.flat hi.2 h2⟩
end
section
variable {P:Program} {G:Ghost} {I:Imm} {h:List AObj} {w:World}
theorem x4s {x:AV} {s:Nat} {c:AV} (hc:c∈x.cells) (hs:s∈c.ids):s∈x.ids:=by
 by_cases ha:∃ cs,x= .agg cs
 ·obtain⟨cs,rfl⟩:=ha
  simp only[AV.cells] at hc
  simp only[AV.ids]
  exact q4v hc s hs
 ·rw[z7r fun cs e=>ha ⟨cs,e⟩] at hc
  simp at hc
  subst hc
  exact hs
theorem ObjR.keep {G':Ghost} {n s:Nat} {o:AObj} (hk:j0v G G' n) (hs:s < n) (hi:∀ k∈o.ids,k < n) (ho:ObjR G I w s o):ObjR G' I w s o:=by
 cases o with
 | dead=>trivial
 | blk g es row grow fz=>
   obtain⟨i,cs,t,h1,h2,h3,h4,h5,h6,h7,h8,h9,h10⟩:=ho
   refine⟨i,cs,t,hk g i h1 (by omega),h2,h3,h4,h5,h6,h7,h8,fun k x hx=>⟨(h9 k x hx).1,fun j c hj=> ?_⟩,h10⟩
   obtain⟨v,hv,hr⟩:=(h9 k x hx).2 j c hj
   exact⟨v,hv,VR.keep hk (fun q hq=>hi q (by simp only[AObj.ids];exact q4v (List.mem_of_getElem? hx) q (x4s (List.mem_of_getElem? hj) hq))) hr⟩
 | tip g e=>
   obtain⟨i,h1,h2,h3⟩:=ho
   exact⟨i,hk g i h1 (by omega),h2,h3⟩
 | map g es=>
   obtain⟨i,ents,clk,h1,h2,h3,h4⟩:=ho
   refine⟨i,ents,clk,hk g i h1 (by omega),h2,h3, ?_⟩
   obtain⟨hl,hg⟩:=x4q h4
   refine j0q hl fun j x e hx he=> ?_
   obtain⟨e',he',hr1,hr2⟩:=hg j x hx
   rw[he] at he'
   simp at he'
   subst he'
   have hm:=List.mem_of_getElem? hx
   refine⟨VR.keep hk (fun q hq=>hi q ?_) hr1,VR.keep hk (fun q hq=>hi q ?_) hr2⟩
   ·simp only[AObj.ids,List.mem_append]
    exact .inl (q4v (List.mem_map.2 ⟨x,hm,rfl⟩) q hq)
   ·simp only[AObj.ids,List.mem_append]
    exact .inr (q4v (List.mem_map.2 ⟨x,hm,rfl⟩) q hq)
structure Ran (base clk:Nat) (G:Ghost) (I:Imm) (h:List AObj) (w:World) (G':Ghost) (I':Imm) (h':List AObj) (w':World):Prop where
 rel:Rel G' I' h' w'
 gle:GLe G G'
 ile:ILe I I'
 slots:∀ g i,G' g=some i→G g=none→clk≤g∧base≤i.slot
 own:OwnLe G h w G' h'
 fr:Fr G h w w'
 ifr:IFr G h w I I'
theorem Ran.refl {base clk:Nat} (rel:Rel G I h w):Ran base clk G I h w G I h w:=
 ⟨rel,GLe.refl _,ILe.refl _,fun g i h1 h2=>by simp[h1] at h2,OwnLe.refl _ _ _,Fr.refl _ _ _,IFr.refl⟩
theorem Ran.trans {base base' clk clk':Nat} {G' G'':Ghost} {I' I'':Imm} {h' h'':List AObj} {w' w'':World} (a:Ran base clk G I h w G' I' h' w') (b:Ran base' clk' G' I' h' w' G'' I'' h'' w'') (hb:base≤base') (hc:clk≤clk'):
  Ran base clk G I h w G'' I'' h'' w'':=
 ⟨b.rel,a.gle.trans b.gle,a.ile.trans b.ile,fun g i h1 h2=>by
  cases hg:G' g with
  | none=>
    have:=b.slots g i h1 hg
    omega
  | some j=>
    have h3:=b.gle g j hg
    rw[h1] at h3
    simp at h3
    subst h3
    exact a.slots g i hg h2,
  a.own.trans a.fr.size b.own,a.fr.trans a.own b.fr,a.ifr.trans a.own a.fr.size b.ifr⟩
theorem Rel.part {h':List AObj} (rel:Rel G I h w) (hs:∀ (i:Nat) o,h'[i]? =some o→o= .dead∨h[i]? =some o):Rel G I h' w:=by
 refine⟨rel.imm,fun i o ho=> ?_,fun i j oi oj b hi hj h1 h2=> ?_⟩
 ·rcases hs i o ho with rfl | ho
  ·trivial
  ·exact rel.obj i o ho
 ·rcases hs i oi hi with rfl | hi
  ·simp[Am.own] at h1
  ·rcases hs j oj hj with rfl | hj
   ·simp[Am.own] at h2
   ·exact rel.inj i j oi oj b hi hj h1 h2
theorem z9n {T:List Nat}:∀ {h:List AObj} {k i:Nat},(maskFrom T k h)[i]? =(h[i]?).map fun o=>if T.contains (k + i) then o else .dead
 | [],k,i=>by simp[maskFrom]
 | o::h,k,i=>by
   cases i with
   | zero=>simp[maskFrom]
   | succ i=>
     simp only[maskFrom,List.getElem?_cons_succ,z9n]
     rw[show k + 1 + i=k + (i + 1) by omega]
theorem z8w {T:List Nat}:∀ {h:List AObj} {k:Nat},(maskFrom T k h).length=h.length
 | [],_=>rfl
 | o::h,k=>by simp[maskFrom,z8w]
theorem q4w {T:List Nat}:∀ {h h':List AObj} {k i:Nat},h.length≤h'.length→i < h.length→(z0r T k h h')[i]? =if T.contains (k + i) then h'[i]? else h[i]?
 | [],_,_,_,_,hi=>by simp at hi
 | o::h,[],_,_,hl,_=>by simp at hl
 | o::h,o'::h',k,i,hl,hi=>by
   cases i with
   | zero=>
     simp only[z0r,List.getElem?_cons_zero,Nat.add_zero]
     split <;> rfl
   | succ i=>
     simp only[z0r,List.getElem?_cons_succ]
     rw[q4w (by simpa using hl) (by simpa using hi),show k + 1 + i=k + (i + 1) by omega]
theorem z6k {T:List Nat}:∀ {h h':List AObj} {k:Nat},h.length≤h'.length→(z0r T k h h').length=h.length
 | [],[],_,_=>rfl
 | [],_::_,_,_=>rfl
 | o::h,[],_,hl=>by simp at hl
 | o::h,o'::h',k,hl=>by simp[z0r,z6k (show h.length≤h'.length by simpa using hl)]
theorem q0x {byref:List Nat}:∀ {vs vs':List AV} {cvs:List Value} {k:Nat} {G:Ghost} {I:Imm} {h h1:List AObj} {w:World},z1d h byref k vs=some vs'→VRL G I vs cvs→Frozen h h1→Rel G I h1 w→
  ∃ I',ILe I I'∧Rel G I' (freezeAll h1 (z0p byref k vs)) w∧VRL G I' vs' cvs∧NoNew G h1 I I'
 | [],_,_,_,G,I,h,h1,w,hc,hv,hf,rel=>by
   simp only[z1d,Option.some.injEq] at hc
   subst hc
   exact⟨I,ILe.refl _,by simpa only[z0p,freezeAll] using rel,hv,NoNew.refl⟩
 | v::vs,_,_,k,G,I,h,h1,w,hc,hv,hf,rel=>by
   simp only[z1d] at hc
   split at hc
   ·rename_i a b ha hb
    simp at hc
    subst hc
    simp only[VRL] at hv
    obtain⟨cv,cvs,rfl,hv1,hv2⟩:=hv
    by_cases hr:byref.contains k=true
    ·simp only[hr,if_true,Option.some.injEq] at ha
     subst ha
     obtain⟨I2,hI2,r2,hxs,hn2⟩:=q0x hb hv2 hf rel
     refine⟨I2,hI2, ?_, ?_,hn2⟩
     ·simp only[z0p,hr,if_true,List.nil_append]
      exact r2
     ·simp only[VRL]
      exact⟨cv,cvs,rfl,VR.mono (GLe.refl _) hI2 hv1,hxs⟩
    ·have hr:byref.contains k=false:=by simpa using hr
     simp only[hr,Bool.false_eq_true,if_false] at ha
     obtain⟨I1,hI1,r1,hx,hn1⟩:=q8s ha hv1 hf rel
     obtain⟨I2,hI2,r2,hxs,hn2⟩:=q0x hb (VRL.mono (GLe.refl _) hI1 hv2) (hf.trans (z2j _ _)) r1
     refine⟨I2,hI1.trans hI2, ?_, ?_,fun b hb o v hv=>hn1 b hb o v (hn2 b (fun i x hi hx=>by
      obtain⟨o',h2,h3⟩:=q6d (z2j _ _) hi hx
      exact hb i o' h2 h3) o v hv)⟩
     ·simp only[z0p,hr,Bool.false_eq_true,if_false,z4h]
      exact r2
     ·simp only[VRL]
      exact⟨cv,cvs,rfl,VR.mono (GLe.refl _) hI2 hx,hxs⟩
   ·simp at hc
end
end
section
variable {P:Program} {G:Ghost} {I:Imm} {h:List AObj} {w:World}
structure Left (T:List Nat) (n clk:Nat) (G:Ghost) (I:Imm) (h:List AObj) (w:World) (I1:Imm) (hf:List AObj) (G':Ghost) (I':Imm) (s:List AObj) (I2:Imm) (hr:List AObj) (w':World):Prop where
 frz:Frozen h hf
 rel1:Rel G I1 hf w
 le1:ILe I I1
 new1:NoNew G h I I1
 ran:Ran h.length clk G I1 (maskFrom T 0 hf++List.replicate n .dead) w G' I' s w'
 len:h.length≤s.length
 frz2:Frozen s hr
 rel2:Rel G' I2 hr w'
 le2:ILe I' I2
 new2:NoNew G' s I' I2
variable {T:List Nat} {n clk:Nat} {I1 I' I2:Imm} {hf s hr:List AObj} {G':Ghost} {w':World}
theorem x8a {i:Nat} {o:AObj} (hi:(maskFrom T 0 hf++List.replicate n .dead)[i]? =some o):o= .dead∨(T.contains i=true∧hf[i]? =some o):=by
 rw[List.getElem?_append] at hi
 split at hi
 ·rw[z9n] at hi
  simp only[Nat.zero_add,Option.map_eq_some_iff] at hi
  obtain⟨o',h1,h2⟩:=hi
  split at h2
  ·rename_i ht
   subst h2
   exact .inr ⟨ht,h1⟩
  ·exact .inl h2.symm
 ·left
  have:=List.mem_of_getElem? hi
  exact (List.mem_replicate.1 this).2
theorem k6c (rel1:Rel G I1 hf w):Rel G I1 (maskFrom T 0 hf++List.replicate n .dead) w:=
 rel1.part fun _ _ hi=>(x8a hi).imp id And.right
namespace Left
variable (l:Left T n clk G I h w I1 hf G' I' s I2 hr w')
include l
theorem maskOwner {i b:Nat} {o:AObj} (hi:(maskFrom T 0 hf++List.replicate n .dead)[i]? =some o) (hb:Am.own G o=some b):T.contains i=true∧hf[i]? =some o:=by
 have _:=l
 rcases x8a hi with rfl | h
 ·simp[Am.own] at hb
 ·exact h
theorem hOwner {i b:Nat} {o:AObj} (hi:hf[i]? =some o) (hb:Am.own G o=some b):∃ (j:Nat) (x:AObj),h[j]? =some x∧Am.own G x=some b:=z8v l.frz i o b hi hb
theorem kept {i b:Nat} {o:AObj} (hi:hf[i]? =some o) (ht:T.contains i=false) (hb:Am.own G o=some b):
  b < w.heap.size∧(∀ (j:Nat) x,s[j]? =some x→Am.own G' x≠some b)∧w'.heap[b]? =w.heap[b]? ∧∀ o v,I2 b o=some v→I1 b o=some v:=by
 have hlt:=q0a (l.rel1.obj i o hi) hb
 have hm:∀ (j:Nat) x,(maskFrom T 0 hf++List.replicate n .dead)[j]? =some x→Am.own G x≠some b:=fun j x hj hx=>by
  obtain⟨h1,h2⟩:=l.maskOwner hj hx
  have:=l.rel1.inj i j o x b hi h2 hb hx
  subst this
  rw[ht] at h1
  simp at h1
 have hs:∀ (j:Nat) x,s[j]? =some x→Am.own G' x≠some b:=fun j x hj hx=>by
  rcases l.ran.own j x b hj hx with ⟨k,y,hk,hy⟩ | hge
  ·exact hm k y hk hy
  ·omega
 exact⟨hlt,hs,l.ran.fr.kept b hlt hm,fun o v hv=>l.ran.ifr b hlt hm o v (l.new2 b hs o v hv)⟩
theorem srcOwner {i b:Nat} {o:AObj} (hi:hr[i]? =some o) (hb:Am.own G' o=some b):(∃ (j:Nat) (x:AObj),s[j]? =some x∧Am.own G' x=some b)∧((∃ (j:Nat) (x:AObj),h[j]? =some x∧Am.own G x=some b)∨w.heap.size≤b):=by
 obtain⟨j,x,h1,h2⟩:=z8v l.frz2 i o b hi hb
 refine⟨⟨j,x,h1,h2⟩, ?_⟩
 rcases l.ran.own j x b h1 h2 with ⟨k,y,hk,hy⟩ | hge
 ·obtain⟨_,h3⟩:=l.maskOwner hk hy
  exact .inl (l.hOwner h3 hy)
 ·exact .inr hge
theorem merge_rel {Gx:Ghost} {mm:List AObj} (hGx:GLe G Gx)
  (hmm:∀ (i:Nat) o,mm[i]? =some o→(T.contains i=false∧hf[i]? =some o)∨(hr[i]? =some o∧(i < h.length→T.contains i=true)∧ObjR Gx I2 w' i o∧Am.own Gx o=Am.own G' o)):
  Rel Gx I2 mm w'∧OwnLe G h w Gx mm:=by
 have hext:∀ (i:Nat) o,hf[i]? =some o→Am.own Gx o=Am.own G o:=fun i o hi=>q0t hGx (l.rel1.obj i o hi)
 refine⟨⟨l.rel2.imm,fun i o hi=> ?_,fun i j oi oj b hi hj h1 h2=> ?_⟩,fun i o b hi hb=> ?_⟩
 ·rcases hmm i o hi with ⟨ht,h1⟩ | ⟨_,_,h1,_⟩
  ·exact (l.rel1.obj i o h1).shift hGx (l.ran.ile.trans l.le2) (fun b hb=>(l.kept h1 ht hb).2.2.1) fun b hb o v hv=>(l.kept h1 ht hb).2.2.2 o v hv
  ·exact h1
 ·have cross:∀ {i j:Nat} {oi oj:AObj},T.contains i=false→hf[i]? =some oi→hr[j]? =some oj→Am.own Gx oi=some b→Am.own Gx oj=some b→Am.own Gx oj=Am.own G' oj→False:=fun ht g1 g2 g3 g4 g5=>by
   rw[hext _ _ g1] at g3
   rw[g5] at g4
   obtain⟨⟨k,x,hk,hx⟩,_⟩:=l.srcOwner g2 g4
   exact (l.kept g1 ht g3).2.1 k x hk hx
  rcases hmm i oi hi with ⟨ht1,g1⟩ | ⟨g1,_,_,e1⟩ <;> rcases hmm j oj hj with ⟨ht2,g2⟩ | ⟨g2,_,_,e2⟩
  ·rw[hext _ _ g1] at h1
   rw[hext _ _ g2] at h2
   exact l.rel1.inj i j oi oj b g1 g2 h1 h2
  ·exact (cross ht1 g1 g2 h1 h2 e2).elim
  ·exact (cross ht2 g2 g1 h2 h1 e1).elim
  ·rw[e1] at h1
   rw[e2] at h2
   exact l.rel2.inj i j oi oj b g1 g2 h1 h2
 ·rcases hmm i o hi with ⟨_,g1⟩ | ⟨g1,_,_,e1⟩
  ·rw[hext _ _ g1] at hb
   exact .inl (l.hOwner g1 hb)
  ·rw[e1] at hb
   exact (l.srcOwner g1 hb).2
theorem notMask {b:Nat} (hn:∀ (i:Nat) o,h[i]? =some o→Am.own G o≠some b) (i:Nat) (o:AObj) (hi:(maskFrom T 0 hf++List.replicate n .dead)[i]? =some o):Am.own G o≠some b:=fun hb=>by
 obtain⟨_,h1⟩:=l.maskOwner hi hb
 obtain⟨j,x,h2,h3⟩:=l.hOwner h1 hb
 exact hn j x h2 h3
theorem fr:Fr G h w w':=
 ⟨l.ran.fr.os,l.ran.fr.tape,l.ran.fr.output,l.ran.fr.size,fun b hb hn=>l.ran.fr.kept b hb (l.notMask hn)⟩
theorem ifr:IFr G h w I I2:=fun b hb hn o v hv=>by
 refine l.new1 b hn o v (l.ran.ifr b hb (l.notMask hn) o v (l.new2 b (fun i x hi hx=> ?_) o v hv))
 rcases l.ran.own i x b hi hx with ⟨k,y,hk,hy⟩ | hge
 ·exact l.notMask hn k y hk hy
 ·omega
theorem lenf:hf.length=h.length:=l.frz.1
theorem lenr:h.length≤hr.length:=by rw[l.frz2.1];exact l.len
theorem merged {i:Nat} {o:AObj} (hi:(z0r T 0 hf hr)[i]? =some o):i < h.length∧((T.contains i=false∧hf[i]? =some o)∨(T.contains i=true∧hr[i]? =some o)):=by
 have hlen:hf.length≤hr.length:=by rw[l.lenf];exact l.lenr
 have hlt:i < hf.length:=by
  rw[←z6k (T:=T) (k:=0) hlen]
  exact (List.getElem?_eq_some_iff.1 hi).1
 rw[q4w hlen hlt,Nat.zero_add] at hi
 refine⟨by rw[←l.lenf];exact hlt, ?_⟩
 cases ht:T.contains i with
 | true=>rw[ht] at hi;exact .inr ⟨rfl,by simpa using hi⟩
 | false=>rw[ht] at hi;exact .inl ⟨rfl,by simpa using hi⟩
theorem all:Ran h.length clk G I h w G' I2 (z0r T 0 hf hr++hr.drop h.length) w':=by
 have hlen:hf.length≤hr.length:=by rw[l.lenf];exact l.lenr
 obtain⟨h1,h2⟩:=l.merge_rel (Gx:=G') (mm:=z0r T 0 hf hr++hr.drop h.length) l.ran.gle fun i o hi=>by
  rw[List.getElem?_append,z6k hlen,l.lenf] at hi
  split at hi
  ·rename_i hlt
   rcases (l.merged hi).2 with ⟨g1,g2⟩ | ⟨g1,g2⟩
   ·exact .inl ⟨g1,g2⟩
   ·exact .inr ⟨g2,fun _=>g1,l.rel2.obj i o g2,rfl⟩
  ·rename_i hge
   rw[List.getElem?_drop,show h.length + (i - h.length)=i by omega] at hi
   exact .inr ⟨hi,fun hlt=>absurd hlt hge,l.rel2.obj i o hi,rfl⟩
 exact⟨h1,l.ran.gle,l.le1.trans (l.ran.ile.trans l.le2),l.ran.slots,h2,l.fr,l.ifr⟩
theorem cut {v:AV} {cv:Value} (hfresh:∀ g,clk≤g→G g=none) (hv:VR G' I2 v cv)
  (hids:∀ q∈v.ids++(T.map fun i=>((hr[i]?).map AObj.ids).getD []).flatten,q < h.length):
  ∃ G'',VR G'' I2 v cv∧Ran h.length clk G I h w G'' I2 (z0r T 0 hf hr) w'∧∀ g,clk≤g→G'' g=none:=by
 let G'':Ghost:=fun g=>if clk≤g then none else G' g
 have hkeep:j0v G' G'' h.length:=fun g i hg hi=>by
  show (if clk≤g then none else G' g)=some i
  cases hgg:G g with
  | none=>
    have:=(l.ran.slots g i hg hgg).2
    omega
  | some j=>
    have:¬ clk≤g:=fun hc=>by rw[hfresh g hc] at hgg;simp at hgg
    rw[if_neg this]
    exact hg
 have hG:GLe G G'':=fun g i hg=>by
  show (if clk≤g then none else G' g)=some i
  have:¬ clk≤g:=fun hc=>by rw[hfresh g hc] at hg;simp at hg
  rw[if_neg this]
  exact l.ran.gle g i hg
 have ownKeep:∀ (i:Nat) (o:AObj),ObjR G' I2 w' i o→i < h.length→Am.own G'' o=Am.own G' o:=fun i o ho hi=>by
  cases o with
  | dead=>rfl
  | blk g es row grow fz=>
    obtain⟨gi,_,_,g1,g2,_⟩:=ho
    simp only[Am.own]
    rw[g1,hkeep g gi g1 (by omega)]
  | tip g e=>
    obtain⟨gi,g1,g2,_⟩:=ho
    simp only[Am.own]
    rw[g1,hkeep g gi g1 (by omega)]
  | map g es=>
    obtain⟨gi,_,_,g1,g2,_⟩:=ho
    simp only[Am.own]
    rw[g1,hkeep g gi g1 (by omega)]
 refine⟨G'',VR.keep hkeep (fun q hq=>hids q (List.mem_append.2 (.inl hq))) hv, ?_,fun g hg=> ?_⟩
 ·obtain⟨h1,h2⟩:=l.merge_rel (Gx:=G'') (mm:=z0r T 0 hf hr) hG fun i o hi=>by
   obtain⟨hlt,hc⟩:=l.merged hi
   rcases hc with ⟨g1,g2⟩ | ⟨g1,g2⟩
   ·exact .inl ⟨g1,g2⟩
   ·have hob:=l.rel2.obj i o g2
    refine .inr ⟨g2,fun _=>g1,hob.keep hkeep hlt (fun q hq=>hids q (List.mem_append.2 (.inr ?_))),ownKeep i o hob hlt⟩
    rw[List.mem_flatten]
    exact⟨o.ids,List.mem_map.2 ⟨i,by simpa using g1,by simp[g2]⟩,hq⟩
  refine⟨h1,hG,l.le1.trans (l.ran.ile.trans l.le2),fun g i hg hn=> ?_,h2,l.fr,l.ifr⟩
  have hg:(if clk≤g then none else G' g)=some i:=hg
  split at hg
  ·simp at hg
  ·exact l.ran.slots g i hg hn
 ·show (if clk≤g then none else G' g)=none
  rw[if_pos hg]
end Left
end
section
variable {P:Program} {G:Ghost} {I:Imm} {h:List AObj} {w:World}
def CallRes (P:Program) (f:Nat) (cargs:Array Value) (w:World) (post:Value→World→Prop):Prop:=
 ∀ (o:Oper) (a:Act) (next:Act→World→Prop) (Q:Exit→Act→World→Prop),(∀ cv w',post cv w'→next (a.put o.dst cv) w')→o.upon P a next Q ((callFunc f cargs).run P w)
def Fresh (G:Ghost) (clk:Nat):Prop:=∀ g,clk≤g→G g=none
def q8d (G:Ghost) (I:Imm) (h:List AObj) (w:World) (clk:Nat) (v:AV) (h':List AObj) (clk':Nat) (cv:Value) (w':World):Prop:=
 ∃ G' I',VR G' I' v cv∧Ran h.length clk G I h w G' I' h' w'∧Fresh G' clk'∧clk≤clk'∧h.length≤h'.length
def q4x (P:Program) (C:Caller):Prop:=
 ∀ f args h clk v h' clk',C f args h clk=some (v,h',clk')→∀ G I w (cargs:Array Value),VRL G I args cargs.toList→Rel G I h w→Fresh G clk→CallRes P (real f) cargs w (q8d G I h w clk v h' clk')
def TmpR (G:Ghost) (I:Imm) (ts:Tmps) (tmps:Array Value):Prop:=∀ t,VR G I (ts t) (tmps.getD t undef)
theorem TmpR.mono {G':Ghost} {I':Imm} (hG:GLe G G') (hI:ILe I I') {ts:Tmps} {tmps:Array Value} (ht:TmpR G I ts tmps):TmpR G' I' ts tmps:=fun t=>VR.mono hG hI (ht t)
theorem TmpR.eval {ts:Tmps} {a:Act} (ht:TmpR G I ts a.tmps):TR G I ts a.eval:=⟨fun t=>ht t,fun _=>rfl,fun _=>rfl⟩
theorem TmpR.put {ts:Tmps} {a:Act} {dst:Option Nat} {v:AV} {cv:Value} (ht:TmpR G I ts a.tmps) (hv:VR G I v cv) (hd:dst.all (· < a.tmps.size)=true):TmpR G I (z8c ts dst v) (a.put dst cv).tmps:=by
 cases dst with
 | none=>exact ht
 | some d=>
   have hd:d < a.tmps.size:=by simpa using hd
   intro t
   simp only[z8c,upd,Act.put]
   by_cases h:t=d
   ·subst h
    simp[hd,hv]
   ·rw[if_neg h]
    have:=ht t
    simpa [Array.getElem?_setIfInBounds_ne (Ne.symm h)] using this
theorem z9o {a:Act} {dst:Option Nat} {cv:Value}:(a.put dst cv).tmps.size=a.tmps.size:=by
 cases dst <;> simp[Act.put]
theorem q2y {a:Act} {dst:Option Nat} {cv:Value}:(a.put dst cv).defers=a.defers:=by
 cases dst <;> rfl
def Marks (B:Nat) (ds:List Deferred) (w:World):Prop:=(∀ d∈ds,∃ r,d.target= .collected r∧B≤r∧w.heap[r]? =some (.deferred (some [])))∧ds.Pairwise fun d e=>d.target≠e.target
theorem x8b {s b:Nat} {o:AObj} (hob:ObjR G I w s o) (ho:own G o=some b):∀ x,w.heap[b]? ≠some (.deferred x):=by
 intro x hx
 cases o with
 | dead=>simp[own] at ho
 | blk g es row grow fz=>
   obtain⟨i,cs,t,h1,_,h3,_⟩:=hob
   simp[own,h1] at ho
   subst ho
   rw[h3] at hx
   simp at hx
 | tip g e=>
   obtain⟨i,h1,_,_,h3⟩:=hob
   simp[own,h1] at ho
   obtain⟨hr,rfl⟩:=ho
   obtain⟨cs,t,h4,_⟩:=h3 hr
   rw[h4] at hx
   simp at hx
 | map g es=>
   obtain⟨i,ents,clk,h1,_,h3,_⟩:=hob
   simp[own,h1] at ho
   subst ho
   rw[h3] at hx
   simp at hx
theorem Marks.keep {B:Nat} {ds:List Deferred} {w':World} (hm:Marks B ds w) (rel:Rel G I h w) (hfr:Fr G h w w'):Marks B ds w':=⟨fun d hd=>by
 obtain⟨r,h1,h0,h2⟩:=hm.1 d hd
 refine⟨r,h1,h0, ?_⟩
 rw[hfr.kept r (Array.getElem?_eq_some_iff.1 h2).1 fun i o hi ho=>x8b (rel.obj i o hi) ho _ h2]
 exact h2,hm.2⟩
structure Live (nt B:Nat) (G:Ghost) (I:Imm) (s:St) (a:Act) (w:World):Prop where
 bnd:B≤w.heap.size
 dfr:Marks B a.defers w
 size:nt≤a.tmps.size
 tmps:TmpR G I s.ts a.tmps
 rel:Rel G I s.h w
theorem z2z (l:List (Nat×Nat)) (h:List AObj):(freezeAll h l).length=h.length:=(z2j h l).1
theorem q7y {h h':List AObj} {slot gen esz bytes:Nat} {mu:Bool} {x y v:AV} (ha:z0n h slot gen esz bytes mu x y=some (v,h')):h'.length=h.length:=by
 unfold z0n at ha
 repeat' split at ha
 all_goals first
  | (simp at ha;done)
  | (simp only[Option.some.injEq,Prod.mk.injEq] at ha;obtain⟨_,rfl⟩:=ha;simp)
theorem z6q {h h':List AObj} {base gen:Nat} {ts:Tmps} {a:AOp} {v:AV} (hp:prim h base gen ts a=some (v,h')):h'.length=h.length:=by
 cases a with
 | append k esz by_ mu x y=>exact q7y hp
 | store sz x y=>
   simp only[prim] at hp
   repeat' split at hp
   all_goals first
    | (simp at hp;done)
    | skip
   all_goals
    simp only[Option.map_eq_some_iff,Prod.mk.injEq] at hp
    obtain⟨ww,hsp,hvv,rfl⟩:=hp
    clear hsp hvv
    simp only[List.length_set]
    rename_i hq _
    first
     | (simp at hq;obtain⟨_,rfl⟩:=hq;rfl)
     | (split at hq
        ·simp only[pub,Option.map_eq_some_iff,Prod.mk.injEq] at hq
         obtain⟨_,_,_,rfl⟩:=hq
         exact z2z _ _
        ·simp at hq
         obtain⟨_,rfl⟩:=hq
         rfl)
 | mapUpdate t m k x=>
   simp only[prim] at hp
   repeat' split at hp
   all_goals first
    | (simp at hp;done)
    | skip
   all_goals
    simp only[Option.map_eq_some_iff,Prod.mk.injEq] at hp
    obtain⟨ww,hsp,hvv,rfl⟩:=hp
    clear hsp hvv
    simp only[List.length_set]
    rename_i hq _
    simp only[pub,Option.map_eq_some_iff,Prod.mk.injEq] at hq
    obtain⟨_,_,_,rfl⟩:=hq
    exact z2z _ _
 | buildSlice k mu z n ps=>
   simp only[prim] at hp
   repeat' split at hp
   all_goals first
    | (simp at hp;done)
    | skip
   all_goals
    simp only[Option.map_eq_some_iff] at hp
    obtain⟨_,_,hp⟩:=hp
    simp at hp
    obtain⟨_,rfl⟩:=hp
    simp[z2z]
 | _=>
   simp only[prim] at hp
   repeat' split at hp
   all_goals first
    | (simp at hp;done)
    | (simp only[Option.some.injEq,Prod.mk.injEq] at hp;obtain⟨_,rfl⟩:=hp;simp)
    | (simp only[Option.map_eq_some_iff,Prod.mk.injEq] at hp;obtain⟨_,_,_,rfl⟩:=hp;rfl)
    | (simp only[Option.bind_eq_some_iff,Option.map_eq_some_iff,Prod.mk.injEq] at hp;obtain⟨_,_,_,_,_,rfl⟩:=hp;rfl)
theorem x1w {b:Builtin} {args:List Operand} {tys:List TypeId} {n:Nat} {mu:Bool} {a:AOp} (hc:q4r P b args tys n mu=some a):a.plain=true:=by
 unfold q4r at hc
 repeat' split at hc
 all_goals first
  | (simp at hc;done)
  | (simp only[Option.some.injEq] at hc;subst hc;rfl)
  | (simp only[Option.map_eq_some_iff] at hc;obtain⟨_,_,rfl⟩:=hc;rfl)
theorem k0a {back:Nat→Option Nat} {n:Nat} {mu:Bool} {op:Op} {a:AOp} (hn:∀ c,op≠ .call c) (hc:cOp P back n mu op=some a):a.plain=true:=by
 cases op with
 | call c=>exact absurd rfl (hn c)
 | makeFunc f x y=>
   cases f <;> simp only[cOp] at hc <;> (repeat' split at hc) <;> first
    | (simp at hc;done)
    | (simp only[Option.map_eq_some_iff] at hc;obtain⟨_,_,rfl⟩:=hc;rfl)
 | _=>
   simp only[cOp] at hc
   repeat' split at hc
   all_goals first
    | (simp at hc;done)
    | (simp only[Option.some.injEq] at hc;subst hc;rfl)
    | (simp only[Option.map_eq_some_iff] at hc;obtain⟨_,_,rfl⟩:=hc;rfl)
theorem k0b {al:Nat→Nat} {a:AOp} (h:(a.alt al).plain=true):a.alt al=a:=by
 cases a <;> first | rfl | simp[AOp.alt,AOp.plain] at h
theorem q7f {al:Nat→Nat} {a:AOp} (h:a.plain=true):a.alt al=a:=by
 cases a <;> first | rfl | simp[AOp.plain] at h
structure Made (P:Program) (back:Nat→Option Nat) (nt:Nat) (mu:Nat→Bool) (al:Nat→Nat) (ops:List Oper) (n:Nat) (o:Oper) (ao:AOper):Prop where
 dst:ao.dst=o.dst
 op:ao.op=((cOp P back n (mu n) o.op).getD .bad).alt al
 guard:cGuard ops o.guard=some ao.guard
 room:o.dst.all (· < nt)=true
theorem q9e {ops:Array Oper} {o:Oper} {ao:AOper} {ts:Tmps} {a:Act} {b:Bool} (hg:cGuard ops.toList o.guard=some ao.guard) (ht:TmpR G I ts a.tmps) (hnt:∀ (j t:Nat),j0f ops.toList j=some t→t < a.tmps.size) (hw:z6d ts ao.guard=some b):
  Region.wanted o (yielded ops a.tmps)=b:=by
 unfold Region.wanted
 cases hgu:o.guard with
 | none=>
   rw[hgu] at hg
   simp[cGuard] at hg
   rw[←hg] at hw
   simpa [z6d] using hw
 | some g=>
   obtain⟨j,want⟩:=g
   rw[hgu] at hg
   simp only[cGuard,Option.map_eq_some_iff] at hg
   obtain⟨t,h1,h2⟩:=hg
   rw[←h2] at hw
   have hlt:=hnt j t h1
   have hv:=ht t
   have hget:a.tmps.getD t undef=a.tmps[t]:=by simp[hlt]
   rw[hget] at hv
   have hy:yielded ops a.tmps j=match a.tmps[t] with | .bool b=>some b | _=>none:=by
    unfold yielded
    have:(ops[j]?).bind (·.dst)=some t:=by
     unfold j0f at h1
     simpa using h1
    rw[this]
    simp only[Option.bind_some]
    rw[Array.getElem?_eq_getElem hlt]
    cases a.tmps[t] <;> rfl
   simp only[hy]
   simp only[z6d] at hw
   split at hw
   ·rename_i x heq
    rw[heq] at hv
    simp only[VR] at hv
    rw[hv]
    simp at hw
    simpa using hw
   ·rename_i heq
    rw[heq] at hv
    simp only[VR,VRL] at hv
    obtain⟨vs,hv,hn⟩:=hv
    rw[hv]
    simp at hw
    subst hw
    simp
   ·simp at hw
def w4e (U:Nat→Prop) (G:Ghost) (clk:Nat):Prop:=∀ g,U g∨clk≤g→G g=none
theorem v6w {C:Caller} {back:Nat→Option Nat} {nt B base n lo gen:Nat} {mu:Nat→Bool} {al:Nat→Nat} {ops:Array Oper} {o:Oper} {ao:AOper} {s s':St} {a:Act} {U:Nat→Prop} (hC:q4x P C)
  (hBack:∀ f k,back f=some k→∀ G I w x cx,(z7g x).isSome=true→VR G I x cx→(∀ b o v,I b o=some v→w.cell? ⟨b,o,none⟩=some v)→CallRes P f #[cx] w fun cv w'=>∃ I',ILe I I'∧VR G I' (.bwd k x) cv∧(∀ (b:Nat) (y:Obj),w.heap[b]? =some y→w'.heap[b]? =some y)∧w'.os=w.os∧w'.tape=w.tape∧w'.output=w.output∧w.heap.size≤w'.heap.size∧
   ∀ b o v,I' b o=some v→I b o=some v∨(w.heap.size≤b∧w'.cell? ⟨b,o,none⟩=some v))
  (hm:Made P back nt mu al ops.toList n o ao) (hl:Live nt B G I s a w) (hnt:∀ (j t:Nat),j0f ops.toList j=some t→t < a.tmps.size)
  (hst:stepA C base gen ao s=some s') (hU:U gen) (hUlt:∀ g,U g→g < s.clk) (hK:w4e U G s.clk) (hlo:lo≤gen) (hlo2:lo≤s.clk) (hbase:base≤s.h.length)
  (K:Act→World→Prop) (Q:Exit→Act→World→Prop)
  (next:∀ a' w' G' I',Live nt B G' I' s' a' w'→Ran base lo G I s.h w G' I' s'.h w'→w4e (fun g=>U g∧g≠gen) G' s'.clk→s.clk≤s'.clk→s.h.length≤s'.h.length→a'.tmps.size=a.tmps.size→K a' w'):
  if Region.wanted o (yielded ops a.tmps) then o.wp P a w K Q else K (a.put o.dst undef) w:=by
 have hroom:o.dst.all (· < a.tmps.size)=true:=by
  have h1:=hm.room
  have h2:=hl.size
  cases hd:o.dst with
  | none=>rfl
  | some d=>
    rw[hd] at h1
    simp at h1⊢
    omega
 unfold stepA at hst
 split at hst
 ·rename_i hw
  rw[q9e hm.guard hl.tmps hnt hw,if_pos rfl]
  have called:∀ f args v h1 c (cargs:Array Value),C f args s.h s.clk=some (v,h1,c)→VRL G I args cargs.toList→s'=⟨z8c s.ts ao.dst v,h1,c⟩→o.upon P a K Q ((callFunc (real f) cargs).run P w):=by
   intro f args v h1 c cargs hc hargs hs'
   subst hs'
   refine hC f args s.h s.clk v h1 c hc G I w cargs hargs hl.rel (fun g hg=>hK g (.inr hg)) o a K Q fun cv w' hp=> ?_
   obtain⟨G',I',hv,hran,hfr,hclk,hlen⟩:=hp
   refine next _ _ G' I' ⟨Nat.le_trans hl.bnd hran.fr.size,by rw[q2y];exact hl.dfr.keep hl.rel hran.fr,by rw[z9o];exact hl.size, ?_,hran.rel⟩ ?_ (fun g hg=> ?_) hclk hlen z9o
   ·rw[hm.dst]
    exact (hl.tmps.mono hran.gle hran.ile).put hv hroom
   ·exact⟨hran.rel,hran.gle,hran.ile,fun g i h1 h2=>by have:=hran.slots g i h1 h2;omega,hran.own,hran.fr,hran.ifr⟩
   ·rcases hg with ⟨h1,_⟩ | h1
    ·cases hgg:G' g with
     | none=>rfl
     | some i=>
       have:=(hran.slots g i hgg (hK g (.inl h1))).1
       have:=hUlt g h1
       omega
    ·exact hfr g h1
  have prims:∀ v h1,ao.op.plain=true→prim s.h base gen s.ts ao.op=some (v,h1)→s'=⟨z8c s.ts ao.dst v,h1,s.clk⟩→o.wp P a w K Q:=by
   intro v h1 hpl hp hs'
   subst hs'
   cases hcop:cOp P back n (mu n) o.op with
   | none=>
     have:=hm.op
     rw[hcop] at this
     rw[this] at hp
     simp[prim,AOp.alt] at hp
   | some aop=>
     have hop:=hm.op
     rw[hcop] at hop
     simp only[Option.getD_some] at hop
     rw[k0b (by rw[←hop];exact hpl)] at hop
     rw[hop] at hp hpl
     have hdoes:=v6v (hK gen (.inl hU)) hl.rel hl.tmps.eval hcop hpl hp
     obtain⟨dst,op,ty,pos,after,guard⟩:=o
     obtain⟨nx,cv,w',G',I',hr,hnx,hv,hrel,hGle,hIle,hother,hslot,hown,hfr,hifr⟩:=hdoes dst ty pos after guard
     have hran:Ran base lo G I s.h w G' I' h1 w':=⟨hrel,hGle,hIle,fun g i h2 h3=>by
      by_cases hgg:g=gen
      ·subst hgg
       rw[hslot i h2]
       omega
      ·rw[hother g hgg] at h2
       rw[h2] at h3
       simp at h3,hown,hfr,hifr⟩
     have fin:K (a.put dst cv) w':=by
      refine next _ _ G' I' ⟨Nat.le_trans hl.bnd hfr.size,by rw[q2y];exact hl.dfr.keep hl.rel hfr,by rw[z9o];exact hl.size, ?_,hrel⟩ hran (fun g hg=> ?_) (Nat.le_refl _) ?_ z9o
      ·rw[hm.dst]
       exact (hl.tmps.mono hGle hIle).put hv hroom
      ·rcases hg with ⟨h2,h3⟩ | h2
       ·rw[hother g h3]
        exact hK g (.inl h2)
       ·have:=hUlt gen hU
        have h3:s.clk≤g:=h2
        rw[hother g (by omega)]
        exact hK g (.inr h2)
      ·exact Nat.le_of_eq (z6q hp).symm
     unfold Oper.wp
     rw[hr]
     rcases hnx with rfl | ⟨rfl,rfl⟩
     ·exact fin
     ·exact fin
  have plainPath:ao.op.plain=true→o.wp P a w K Q:=fun hpl=>by
   split at hst
   ·rename_i heq;rw[heq] at hpl;simp[AOp.plain] at hpl
   ·rename_i heq;rw[heq] at hpl;simp[AOp.plain] at hpl
   ·split at hst
    ·rename_i v h1 hp
     simp only[Option.some.injEq] at hst
     exact prims v h1 hpl hp hst.symm
    ·simp at hst
  have badPath:cOp P back n (mu n) o.op=none→o.wp P a w K Q:=fun hn=>plainPath (by rw[hm.op,hn];rfl)
  by_cases hcall:∃ c,o.op= .call c
  ·obtain⟨⟨callee,args,tys⟩,hoc⟩:=hcall
   have hop:=hm.op
   rw[hoc] at hop badPath
   cases callee with
   | builtin b=>
     cases hb:cOp P back n (mu n) (.call ⟨.builtin b,args,tys⟩) with
     | none=>exact badPath hb
     | some aop=>
       rw[hb] at hop
       refine plainPath ?_
       rw[hop]
       have hpl:aop.plain=true:=x1w (b:=b) (args:=args.toList) (tys:=tys.toList) (by simpa only[cOp] using hb)
       show (aop.alt al).plain=true
       rw[q7f hpl]
       exact hpl
   | invoke r m=>exact badPath (by simp[cOp])
   | value f=>
     cases f with
     | const v=>exact badPath (by simp[cOp])
     | global g=>exact badPath (by simp[cOp])
     | tmp t=>
       cases hb:x4k args.toList with
       | none=>exact badPath (by simp[cOp,hb])
       | some xs=>
         simp only[cOp,hb,Option.map_some,Option.getD_some,AOp.alt] at hop
         rw[hop] at hst
         simp only at hst
         split at hst
         ·rename_i f cap heq
          split at hst
          ·rename_i v h1 c hcc
           simp only[Option.some.injEq] at hst
           have hf:=hl.tmps t
           simp only[AOpd.ev] at heq
           rw[heq] at hf
           simp only[VR] at hf
           obtain⟨vs,hf,hcap⟩:=hf
           have hargs:=q8c hl.tmps.eval hb
           have hall:VRL G I (xs.map (·.ev s.ts)++cap) (args.map a.eval++vs).toList:=by
            rw[Array.toList_append,Array.toList_map]
            obtain⟨g1,g2⟩:=z9v.1 hargs
            obtain⟨g3,g4⟩:=z9v.1 hcap
            refine z9v.2 ⟨by simp only[List.length_append,g1,g3],fun i x v hx hv=> ?_⟩
            rw[List.getElem?_append] at hx hv
            rw[←g1] at hv
            split at hx
            ·rename_i hi;rw[if_pos hi] at hv;exact g2 i x v hx hv
            ·rename_i hi;rw[if_neg hi] at hv;exact g4 _ x v hx hv
           have:=called f _ v h1 c (args.map a.eval++vs) hcc hall hst.symm
           obtain⟨dst,op,ty,pos,after,guard⟩:=o
           simp only at hoc
           subst hoc
           have he:execOp a.eval ⟨dst, .call ⟨.value (.tmp t),args,tys⟩,ty,pos,after,guard⟩=callFunc (real f) (args.map a.eval++vs):=by
            have h2:execOp a.eval ⟨dst, .call ⟨.value (.tmp t),args,tys⟩,ty,pos,after,guard⟩=(do let d←Deferred.ofValue (a.eval (.tmp t)) (args.map a.eval);invoke d.target d.args):=rfl
            have h3:a.eval (.tmp t)= .func (.func (real f)) #[] vs:=hf
            rw[h2,h3]
            show callFunc (real f) ((#[]++args.map a.eval)++vs)=_
            rw[Array.empty_append]
           unfold Oper.wp
           rw[he]
           exact this
          ·simp at hst
         ·simp at hst
     | func f=>
       cases hbk:back f with
       | none=>
         by_cases hlt:f < z5n
         case neg=>exact badPath (by simp[cOp,hbk,hlt])
         cases hb:x4k args.toList with
         | none=>exact badPath (by simp[cOp,hb,hbk])
         | some xs=>
           simp only[cOp,hb,hbk,if_pos hlt,Option.map_some,Option.getD_some,AOp.alt] at hop
           rw[hop] at hst
           simp only at hst
           split at hst
           ·rename_i v h1 c hcc
            simp only[Option.some.injEq] at hst
            have hargs:=q8c hl.tmps.eval hb
            have:=called (f + z5n * al f) _ v h1 c (args.map a.eval) hcc (by rw[Array.toList_map];exact hargs) hst.symm
            rw[k5l hlt] at this
            obtain⟨dst,op,ty,pos,after,guard⟩:=o
            simp only at hoc
            subst hoc
            have he:execOp a.eval ⟨dst, .call ⟨.value (.func f),args,tys⟩,ty,pos,after,guard⟩=callFunc f (args.map a.eval):=by
             show callFunc f ((#[]++args.map a.eval)++ #[])=_
             rw[Array.empty_append,Array.append_empty]
            unfold Oper.wp
            rw[he]
            exact this
           ·simp at hst
       | some k=>
         obtain⟨args⟩:=args
         match args,hoc,hop,badPath with
         | [],hoc,hop,badPath=>exact badPath (by simp[cOp,hbk])
         | _::_::_,hoc,hop,badPath=>exact badPath (by simp[cOp,hbk])
         | [x],hoc,hop,badPath=>
           cases hb:z6o x with
           | none=>exact badPath (by simp[cOp,hb,hbk])
           | some x1=>
             simp only[cOp,hb,hbk,Option.map_some,Option.getD_some,AOp.alt] at hop
             rw[hop] at hst
             simp only[prim] at hst
             by_cases hrl:(z7g (x1.ev s.ts)).isSome=true
             case neg=>
              rw[if_neg hrl] at hst
              simp at hst
             rw[if_pos hrl] at hst
             simp only[Option.some.injEq] at hst
             subst hst
             have hx:=z1i hl.tmps.eval hb
             obtain⟨dst,op,ty,pos,after,guard⟩:=o
             simp only at hoc
             subst hoc
             have he:execOp a.eval ⟨dst, .call ⟨.value (.func f),⟨[x]⟩,tys⟩,ty,pos,after,guard⟩=callFunc f #[a.eval x]:=by
              show callFunc f ((#[]++(⟨[x]⟩:Array Operand).map a.eval)++ #[])=_
              rw[Array.empty_append,Array.append_empty,y8t]
             unfold Oper.wp
             rw[he]
             refine hBack f k hbk G I w _ _ hrl hx hl.rel.imm _ a K Q fun cv w' hp=> ?_
             obtain⟨I',hI,hv,hold,h1,h2,h3,h4,h5⟩:=hp
             have hother:∀ b o v,b < w.heap.size→I' b o=some v→I b o=some v:=fun b o v hb hv=>(h5 b o v hv).resolve_right fun hc=>by omega
             have hrel:Rel G I' s.h w':=by
              refine⟨fun b o v hv=> ?_,fun i o ho=> ?_,hl.rel.inj⟩
              ·rcases h5 b o v hv with g1 | ⟨_,g1⟩
               ·exact z5t (hl.rel.imm b o v g1) (hold _)
               ·exact g1
              ·have hob:=hl.rel.obj i o ho
               refine hob.shift (GLe.refl _) hI (fun b hb=> ?_) fun b hb o v hv=>hother b o v (q0a hob hb) hv
               obtain⟨y,hy⟩:=q1w hob hb
               rw[hy,hold b y hy]
             have hfr:Fr G s.h w w':=⟨h1,h2,h3,h4,fun b hb _=>by rw[hold b w.heap[b] (Array.getElem?_eq_getElem hb),Array.getElem?_eq_getElem hb]⟩
             refine next _ _ G I' ⟨Nat.le_trans hl.bnd hfr.size,by rw[q2y];exact⟨fun d hd=>(let ⟨r,q1,q0,q2⟩:=hl.dfr.1 d hd;⟨r,q1,q0,hold r _ q2⟩),hl.dfr.2⟩,by rw[z9o];exact hl.size, ?_,hrel⟩ ⟨hrel,GLe.refl _,hI,fun g i h1 h2=>by rw[h1] at h2;simp at h2,OwnLe.refl _ _ _,hfr,fun b hb _ o v hv=>hother b o v hb hv⟩ (fun g hg=> ?_) (Nat.le_refl _) (Nat.le_refl _) z9o
             ·rw[hm.dst]
              exact (hl.tmps.mono (GLe.refl _) hI).put hv hroom
             ·rcases hg with ⟨h1,_⟩ | h1
              ·exact hK g (.inl h1)
              ·exact hK g (.inr h1)
  ·refine plainPath ?_
   rw[hm.op]
   cases hb:cOp P back n (mu n) o.op with
   | none=>rfl
   | some aop=>
     have hpl:aop.plain=true:=k0a (fun c hc=>hcall ⟨c,hc⟩) hb
     show (aop.alt al).plain=true
     rw[q7f hpl]
     exact hpl
 ·rename_i hw
  rw[q9e hm.guard hl.tmps hnt hw]
  simp only[Bool.false_eq_true,if_false]
  simp only[Option.some.injEq] at hst
  subst hst
  refine next _ _ G I ⟨hl.bnd,by rw[q2y];exact hl.dfr,by rw[z9o];exact hl.size, ?_,hl.rel⟩ (Ran.refl hl.rel) (fun g hg=> ?_) (Nat.le_refl _) (Nat.le_refl _) z9o
  ·rw[hm.dst]
   exact hl.tmps.put (by simp only[VR];exact⟨#[],rfl,by simp[VRL]⟩) hroom
  ·rcases hg with ⟨h1,_⟩ | h1
   ·exact hK g (.inl h1)
   ·exact hK g (.inr h1)
 ·simp at hst
end
section
variable {P:Program} {G:Ghost} {I:Imm} {h:List AObj} {w:World}
def q1p (P:Program) (back:Nat→Option Nat):Prop:=
 ∀ f k,back f=some k→∀ G I w x cx,(z7g x).isSome=true→VR G I x cx→(∀ b o v,I b o=some v→w.cell? ⟨b,o,none⟩=some v)→CallRes P f #[cx] w fun cv w'=>∃ I',ILe I I'∧VR G I' (.bwd k x) cv∧(∀ (b:Nat) (y:Obj),w.heap[b]? =some y→w'.heap[b]? =some y)∧w'.os=w.os∧w'.tape=w.tape∧w'.output=w.output∧w.heap.size≤w'.heap.size∧
     ∀ b o v,I' b o=some v→I b o=some v∨(w.heap.size≤b∧w'.cell? ⟨b,o,none⟩=some v)
structure MadeAll (P:Program) (back:Nat→Option Nat) (nt:Nat) (mu:Nat→Bool) (al:Nat→Nat) (ops:Array Oper) (asx:List AOper):Prop where
 len:asx.length=ops.size
 made:∀ (i:Nat) o,ops[i]? =some o→∃ ao m,asx[i]? =some ao∧Made P back nt mu al ops.toList m o ao
theorem q9f {back:Nat→Option Nat} {nt:Nat} {mu:Nat→Bool} {al:Nat→Nat} {all:List Oper}:∀ {os:List Oper} {asx:List AOper} {n n':Nat},x2g P back nt mu al all n os=some (asx,n')→
  asx.length=os.length∧∀ (i:Nat) o,os[i]? =some o→∃ ao m,asx[i]? =some ao∧Made P back nt mu al all m o ao
 | [],asx,n,n',hc=>by
   simp[x2g] at hc
   obtain⟨rfl,_⟩:=hc
   simp
 | o::os,asx,n,n',hc=>by
   simp only[x2g] at hc
   split at hc
   ·rename_i g asx' n1 hg hr
    split at hc
    ·rename_i hd
     simp only[Option.some.injEq,Prod.mk.injEq] at hc
     obtain⟨rfl,_⟩:=hc
     obtain⟨h1,h2⟩:=q9f hr
     refine⟨by simp[h1],fun i o' ho=> ?_⟩
     cases i with
     | zero=>
       simp at ho
       subst ho
       exact⟨_,n,rfl,rfl,rfl,hg,hd⟩
     | succ i=>simpa using h2 i o' (by simpa using ho)
    ·simp at hc
   ·simp at hc
theorem MadeAll.of {back:Nat→Option Nat} {nt:Nat} {mu:Nat→Bool} {al:Nat→Nat} {ops:Array Oper} {asx:List AOper} {n n':Nat} (hc:x2g P back nt mu al ops.toList n ops.toList=some (asx,n')):MadeAll P back nt mu al ops asx:=by
 obtain⟨h1,h2⟩:=q9f hc
 exact⟨by simpa using h1,fun i o ho=>h2 i o (by simpa using ho)⟩
theorem MadeAll.dst {back:Nat→Option Nat} {nt:Nat} {mu:Nat→Bool} {al:Nat→Nat} {ops:Array Oper} {asx:List AOper} (m:MadeAll P back nt mu al ops asx) (j t:Nat) (hj:j0f ops.toList j=some t):t < nt:=by
 unfold j0f at hj
 cases ho:ops.toList[j]? with
 | none=>simp[ho] at hj
 | some o=>
   rw[ho] at hj
   simp only[Option.bind_some] at hj
   obtain⟨ao,n,_,hm⟩:=m.made j o (by simpa using ho)
   have:=hm.room
   rw[hj] at this
   simpa using this
def q7g (r:Option Nat):Fence:={Fence.wide with round:=r}
theorem k0c {r:Option Nat} {n:Nat}:(q7g r).room n:=fun _ h=>by simp[q7g,Fence.wide] at h
theorem k6d {r:Option Nat} {m n:Nat} {c:Code} {Q:Exit→Act→World→Prop} {a:Act} (hh:c.wpIn (q7g r) m P Q a w):c.wpIn (q7g r) n P Q a w:=
 fun b k cs h1 h2 _=>hh b k cs h1 h2 k0c
theorem j6z {r:Option Nat} {n:Nat} {f:FuncId} {args:Array Value} {R:Ending→World→Prop} (hh:Calls P f args w R):CallsIn (q7g r) n P f args w R:=by
 have:=(callsIn_wide (n:=n)).2 hh
 exact⟨trivial,fun cs _=>this.2 cs (room_wide _)⟩
theorem j0w {r:Option Nat} {n:Nat} {f:FuncId} {args:Array Value} {R:Ending→World→Prop} (hh:CallsIn (q7g r) n P f args w R):Calls P f args w R:=by
 refine (callsIn_wide (n:=n)).1 ⟨trivial,fun cs _=>hh.2 cs k0c⟩
theorem v6x {r:Option Nat} {n:Nat} {o:Oper} {a:Act} {K:Act→World→Prop} {Q:Exit→Act→World→Prop} (hd:∀ c,o.op≠ .defer c) (hh:o.wp P a w K Q):o.wpIn (q7g r) n P a w K Q:=by
 refine⟨fun _ _=>trivial, ?_⟩
 rw[Oper.semAt_eq _ _ _ hd]
 unfold Oper.wp at hh
 generalize (execOp a.eval o).run P w=res at *
 cases res with
 | ok x w'=>
   cases x <;> simp only[Oper.upon,Oper.uponIn] at hh⊢
   case value v=>exact hh
   case skip=>exact hh
   case defer d=>exact hh
   case enter f args=>exact⟨fun h=>by simp[q7g,Fence.wide] at h,(j6z hh).mono fun e w'' he=>by cases e <;> exact he⟩
   case row row args=>
    refine⟨fun h=>by simp[q7g,Fence.wide] at h,fun c cs _=> ?_⟩
    obtain⟨v,w'',h1,h2⟩:=hh c cs
    exact⟨v,w'',h1,stepsIn_wide.2 h2⟩
   all_goals exact hh.elim
 | halt x w'=>cases x <;> simp only[Oper.upon,Oper.uponIn] at hh⊢ <;> exact hh
theorem k0d {C:Caller} {back:Nat→Option Nat} {r:Option Nat} {k nt B base n lo gen:Nat} {mu:Nat→Bool} {al:Nat→Nat} {ops:Array Oper} {o:Oper} {ao:AOper} {s s':St} {a:Act} {U:Nat→Prop} (hC:q4x P C) (hB:q1p P back)
  (hm:Made P back nt mu al ops.toList n o ao) (hl:Live nt B G I s a w) (hnt:∀ (j t:Nat),j0f ops.toList j=some t→t < a.tmps.size)
  (hst:stepA C base gen ao s=some s') (hU:U gen) (hUlt:∀ g,U g→g < s.clk) (hK:w4e U G s.clk) (hlo:lo≤gen) (hlo2:lo≤s.clk) (hbase:base≤s.h.length)
  (K:Act→World→Prop) (Q:Exit→Act→World→Prop)
  (next:∀ a' w' G' I',Live nt B G' I' s' a' w'→Ran base lo G I s.h w G' I' s'.h w'→w4e (fun g=>U g∧g≠gen) G' s'.clk→s.clk≤s'.clk→s.h.length≤s'.h.length→a'.tmps.size=a.tmps.size→K a' w'):
  if Region.wanted o (yielded ops a.tmps) then o.wpIn (q7g r) k P a w K Q else (∀ f,o.about P w a.eval=some f→(q7g r).fn f)∧K (a.put o.dst undef) w:=by
 have hstep:=v6w (Q:=Q) (K:=K) hC hB hm hl hnt hst hU hUlt hK hlo hlo2 hbase next
 split
 ·rename_i hw
  rw[if_pos hw] at hstep
  refine v6x (fun c hc=> ?_) hstep
  have hop:=hm.op
  rw[hc] at hop
  simp only[cOp,Option.getD_none,AOp.alt] at hop
  unfold stepA at hst
  split at hst
  ·rw[hop] at hst
   simp[prim] at hst
  ·rename_i hw2
   rw[q9e hm.guard hl.tmps hnt hw2] at hw
   simp at hw
  ·simp at hst
 ·rename_i hw
  rw[if_neg hw] at hstep
  exact⟨fun _ _=>trivial,hstep⟩
def Came (base nt B lo:Nat) (G:Ghost) (I:Imm) (s:St) (w:World) (s':St) (K:Act→World→Prop):Prop:=
 ∀ a' w' G' I',Live nt B G' I' s' a' w'→Ran base lo G I s.h w G' I' s'.h w'→Fresh G' s'.clk→s.clk≤s'.clk→s.h.length≤s'.h.length→K a' w'
theorem k0e {C:Caller} {back:Nat→Option Nat} {r:Option Nat} {q nt B base lo clk0:Nat} {mu:Nat→Bool} {al:Nat→Nat} {ops:Array Oper} {asx:List AOper} (hC:q4x P C) (hB:q1p P back) (m:MadeAll P back nt mu al ops asx) (hlo:lo≤clk0):
  ∀ (k j:Nat),j + k=ops.size→∀ (s s':St) (G:Ghost) (I:Imm) (w:World) (a:Act),z8s C base (clk0 + j) (asx.drop j) s=some s'→Live nt B G I s a w→w4e (fun g=>clk0 + j≤g∧g < clk0 + ops.size) G s.clk→clk0 + ops.size≤s.clk→base≤s.h.length→
    ∀ Q,Came base nt B lo G I s w s' (Q .normal)→wpOpsIn (q7g r) q P ops Q (List.range' j k) a w:=by
 intro k
 induction k with
 | zero=>
   intro j hj s s' G I w a hr hl hK hclk hb Q hQ
   have hd:asx.drop j=[]:=List.drop_eq_nil_iff.2 (by rw[m.len];omega)
   rw[hd] at hr
   simp only[z8s,Option.some.injEq] at hr
   subst hr
   simp only[List.range'_zero,wpOpsIn]
   exact hQ a w G I hl (Ran.refl hl.rel) (fun g hg=>hK g (.inr hg)) (Nat.le_refl _) (Nat.le_refl _)
 | succ k ih=>
   intro j hj s s' G I w a hr hl hK hclk hb Q hQ
   have hjl:j < ops.size:=by omega
   have ho:ops[j]? =some ops[j]:=Array.getElem?_eq_getElem hjl
   obtain⟨ao,n,hao,hm⟩:=m.made j _ ho
   have hd:asx.drop j=ao::asx.drop (j + 1):=by
    have hja:j < asx.length:=by rw[m.len];exact hjl
    rw[List.drop_eq_getElem_cons hja]
    rw[List.getElem?_eq_getElem hja] at hao
    simp at hao
    rw[hao]
   rw[hd] at hr
   simp only[z8s] at hr
   split at hr
   ·rename_i s1 hst
    have hstep:=k0d (r:=r) (k:=q) (Q:=Q) (K:=wpOpsIn (q7g r) q P ops Q (List.range' (j + 1) k)) (lo:=lo) (gen:=clk0 + j) (U:=fun g=>clk0 + j≤g∧g < clk0 + ops.size) hC hB hm hl (fun i t hi=>Nat.lt_of_lt_of_le (m.dst i t hi) hl.size) hst
     ⟨Nat.le_refl _,by omega⟩ (fun g hg=>by omega) hK (by omega) (by omega) hb (fun a1 w1 G1 I1 hl1 hran hK1 hc1 hlen1 hsz=>by
      refine ih (j + 1) (by omega) s1 s' G1 I1 w1 a1 (by rw[←Nat.add_assoc];exact hr) hl1 (fun g hg=>hK1 g ?_) (by omega) (by omega) Q fun a2 w2 G2 I2 hl2 hran2 hf2 hc2 hlen2=> ?_
      ·rcases hg with hg | hg
       ·exact .inl ⟨⟨by omega,hg.2⟩,by omega⟩
       ·exact .inr hg
      ·exact hQ a2 w2 G2 I2 hl2 (hran.trans hran2 (Nat.le_refl _) (Nat.le_refl _)) hf2 (by omega) (by omega))
    rw[List.range'_succ]
    simp only[wpOpsIn,ho]
    split
    ·rename_i hw
     rw[if_pos hw] at hstep
     exact hstep
    ·rename_i hw
     rw[if_neg hw] at hstep
     exact hstep
   ·simp at hr
def x8c (P:Program) (back:Nat→Option Nat):Prop:=
 ∀ (Γ:AProg) (k nt B base:Nat) (mu:Nat→Bool) (al:Nat→Nat) (id:Nat) (ops:Array Oper) (asx:List AOper),q4x P (z0q (z4l Γ k) Γ)→q1p P back→MadeAll P back nt mu al ops asx→
   q8q (Region.before ops).toList asx 0 asx=true→j9h asx (q1u (Region.before ops).toList asx 0 asx)=true→q6c 0 ops.toList=true→
   ∀ (s s':St) (G:Ghost) (I:Imm) (w:World) (a:Act),region (z0q (z4l Γ k) Γ) Γ base asx.length asx (q1u (Region.before ops).toList asx 0 asx) s=some s'→Live nt B G I s a w→Fresh G s.clk→base≤s.h.length→
     ∀ (r:Option Nat) (q:Nat) (Q:Exit→Act→World→Prop),Came base nt B s.clk G I s w s' (Q .normal)→(Code.region id ops true).wpIn (q7g r) q P Q a w
def j3m:AEx→Exit
 | .norm=> .normal
 | .exit id=> .exit id
 | .ret=> .ret
def x2q (P:Program) (back:Nat→Option Nat) (E:Nat→ACode→St→Option (AEx×St)):Prop:=
 ∀ (r:Option Nat) (nt B:Nat) (mu:Nat→Nat→Bool) (al:Nat→Nat) (base n:Nat) (code:Code) (c:ACode) (n':Nat) (s:St) (e:AEx) (s':St),z8t P back nt mu al n code=some (c,n')→(r=none∨c.noRange=true)→E base c s=some (e,s')→base≤s.h.length→
   ∀ (G:Ghost) (I:Imm) (w:World) (a:Act) (q:Nat) (Q:Exit→Act→World→Prop),Live nt B G I s a w→Fresh G s.clk→Came base nt B s.clk G I s w s' (Q (j3m e))→code.wpIn (q7g r) q P Q a w
def k0f (P:Program) (k:Nat):Prop:=
 ∀ (q l b n c:Nat) (A:Option Addr) (J:Nat→World→Prop) (W:World),n < 2 ^ 48→
   (∀ i W,J i W→W.cell? ⟨b,0,none⟩=some (.slice A n c))→(∀ i W d,J i W→J i {W with drawn:=d})→
   (∀ i W,i < n→J (i + 1) W→∃ bA oA vx,A=some ⟨bA,oA,none⟩∧n≤c∧W.cell? ⟨bA,oA + i,none⟩=some vx∧YieldAt (q7g none) q P l #[.int .i64 i,vx] W fun e W'=>e= .returned (.bool true)∧J i W')→
   J n W→CallsIn (q7g none) (q + 1) P k #[.func (.yield l) #[] #[], .pointer (some ⟨b,0,none⟩)] W fun e W'=>(∃ v,e= .returned v)∧J 0 W'
theorem k0g {C:Caller} {Γ:AProg} {back:Nat→Option Nat} {r:Option Nat} {q nt B base:Nat} {mu:Nat→Bool} {al:Nat→Nat} {id:Nat} {ops:Array Oper} {asx:List AOper} (hC:q4x P C) (hB:q1p P back) (m:MadeAll P back nt mu al ops asx) {s s':St} {a:Act}
  (hr:region C Γ base asx.length asx [] s=some s') (hl:Live nt B G I s a w) (hf:Fresh G s.clk) (hb:base≤s.h.length) {Q:Exit→Act→World→Prop} (hQ:Came base nt B s.clk G I s w s' (Q .normal)):(Code.region id ops false).wpIn (q7g r) q P Q a w:=by
 refine wpIn_region ?_
 rw[List.range_eq_range']
 simp only[region] at hr
 have hl':Live nt B G I {s with clk:=s.clk + asx.length} a w:=⟨hl.bnd,hl.dfr,hl.size,hl.tmps,hl.rel⟩
 refine k0e (lo:=s.clk) (clk0:=s.clk) hC hB m (Nat.le_refl _) ops.size 0 (by omega) _ s' G I w a (by simpa using hr) hl' (fun g hg=>hf g ?_) (by rw[m.len];exact Nat.le_refl _) hb Q fun a' w' G' I' h1 h2 h3 h4 h5=>hQ a' w' G' I' h1 h2 h3 ?_ h5
 ·rcases hg with hg | hg
  ·omega
  ·have:s.clk + asx.length≤g:=hg
   omega
 ·have:s.clk + asx.length≤s'.clk:=h4
  omega
end
end Go.Proofs.YtdfepmffiampgaaGreatDoor.Am
