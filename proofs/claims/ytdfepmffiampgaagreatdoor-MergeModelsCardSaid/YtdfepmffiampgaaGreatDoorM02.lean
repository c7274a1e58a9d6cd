/- The abstract machine's program of this seat What the abstract machine's values and objects stand for in the model's memory The relation between the abstract machine's heap and the model's memory, and  -/
import Derived.KernelRfl
import Derived.WalkKit
import Derived.Laws.CopyRow
import Derived.Deep.AppendSrc
import Derived.Laws.MakeOwn
import Derived.Laws.BytesArg
import Derived.Laws.Tables
import Derived.Laws.StructEq
import Derived.Test.YtdfepmffiampgaaGreatDoorProg
import Derived.Test.YtdfepmffiampgaaGreatDoorM01
set_option linter.all false
namespace Go.Proofs.YtdfepmffiampgaaGreatDoor.Am
open Go
set_option maxRecDepth 100000
def x4l (f:Nat):Option Nat:=if f=192 then some 235 else none
def w4n (f:Nat):Hint:=
 if f=126 then {mu:=[21]}
 else if f=82 then {mu:=[39]}
 else if f=205 then {byref:=[1],owned:=true}
 else if f=90185 then {byref:=[0],owned:=true}
 else if f=15 then {mu:=[6],owned:=true}
 else if f=45 then {mu:=[0,1,2,3,4,5],owned:=true}
 else if f=61 then {mu:=[5],owned:=true}
 else if f=17 then {owned:=true}
 else if f=67 + z5n then {mu:=[0,1,2,3],owned:=true}
 else if f=74 then {alt:=[(67,1)]}
 else if f=37 then {mu:=[13]}
 else if f=73 + z5n then {mu:=[0,1,2,3,4,5,6],ex:=[4,5],owned:=true}
 else if f=36 then {alt:=[(73,1)],owned:=true}
 else if f=25 + z5n then {owned:=true}
 else if f=8 then {alt:=[(25,1)]}
 else if f=28 then {byref:=[0],owned:=true}
 else if f=91018 then {mu:=[0,1,2,3,4]}
 else {}
def z5o (esz bytes:Nat):List AV→Option AV
 | [.sl xs _]=>if z0o esz xs=true∧(idsL xs).isEmpty=true∧xs.length * (bytes + 1)≤2 ^ 46 then some (.sl xs .no) else none
 | _=>none
def x2h:List AV→Option AV
 | [.str s, .int .u8 c]=>if 0≤c∧c < 256 then some (.int .i64 (match s.findIdx? (fun (b:Nat)=>decide ((b:Int)=c)) with | some i=>(i:Int) | none=> -1)) else none
 | _=>none
def y8r (f:Nat):Option (List AV→Option AV):=if f=102 then some (z5o 1 8) else if f=66 then some (z5o 2 24) else if f=67 then some (z5o 5 56) else if f=309 then some x2h else none
noncomputable def Gam:AProg where
 fn f:=cFun Tryz.prog x4l (w4n f) (real f)
 ext f:=match y8r f with
  | some sem=>some sem
  | none=>(w4m.find? fun p=>p.1==f).map fun p=>z7w p.2
 iters:=[235]
structure GInfo where
 slot:Nat
 blk:Nat
 esz:Nat
 cap:Nat
 endp:Nat
 capE:Nat
 room:Bool
abbrev Ghost:=Nat→Option GInfo
abbrev Imm:=Nat→Nat→Option Value
def z8f (s:List Nat):ByteArray:=⟨(s.map UInt8.ofNat).toArray⟩
def TipR (G:Ghost):Tip→Option Addr→List AV→Nat→Prop
 | .no,_,_,_=>True
 | .full,_,xs,c=>c=xs.length
 | .nn,A,_,_=>A≠none
 | .nil,A,xs,c=>A=none∧xs.length=0∧c=0
 | .at s g,A,xs,c=>∃ i,G g=some i∧i.slot=s∧0 < i.esz∧(∀ x∈xs,x.cells.length=i.esz)∧
  (c=xs.length∨(i.room=true∧∃ o,A=some ⟨i.blk,o,none⟩∧o + xs.length * i.esz=i.endp∧o + c * i.esz=i.capE))
mutual
def VR (G:Ghost) (I:Imm):AV→Value→Prop
 | .undef,_=>True
 | .int k n,v=>v= .int k n
 | .bool b,v=>v= .bool b
 | .str s,v=>v= .string (z8f s)∧∀ b∈s,b < 256
 | .agg cs,v=>∃ vs:Array Value,v= .agg vs∧VRL G I cs vs.toList
 | .tup cs,v=>∃ vs:Array Value,v= .tuple vs∧VRL G I cs vs.toList
 | .sl xs t,v=>∃ A n c,v= .slice A n c∧xs.length=n∧n≤c∧TipR G t A xs c∧
  (n=0∨∃ b o e,A=some ⟨b,o,none⟩∧0 < e∧RowI G I xs b o e)
 | .ob s g off len,v=>∃ i A c,G g=some i∧i.slot=s∧v= .slice A len c∧len≤c∧off + c=i.cap∧
  (c=0∨A=some ⟨i.blk,off * i.esz,none⟩)
 | .ptr s g k o,v=>∃ i,G g=some i∧i.slot=s∧v= .pointer (some ⟨i.blk,k * i.esz + o,none⟩)
 | .iptr cs o,v=>∃ b p,v= .pointer (some ⟨b,p + o,none⟩)∧CellsI G I cs b p
 | .nilptr,v=>v= .pointer none
 | .mp s g,v=>∃ i,G g=some i∧i.slot=s∧v= .map (some i.blk)
 | .nilmap,v=>v= .map none
 | .fn f cap,v=>∃ vs:Array Value,v= .func (.func (real f)) #[] vs∧VRL G I cap vs.toList
 | .nilfn,v=>v= .nilFunc
 | .nilif,v=>v= .nilIface
 | .bwd f x,v=>∃ b y,v= .func (.func f) #[] #[.pointer (some ⟨b,0,none⟩)]∧I b 0=some y∧VR G I x y
def VRL (G:Ghost) (I:Imm):List AV→List Value→Prop
 | [],vs=>vs=[]
 | x::xs,vs=>∃ v ws,vs=v::ws∧VR G I x v∧VRL G I xs ws
def RowI (G:Ghost) (I:Imm):List AV→Nat→Nat→Nat→Prop
 | [],_,_,_=>True
 | .agg cs::xs,b,o,e=>cs.length=e∧CellsI G I cs b o∧RowI G I xs b (o + e) e
 | x::xs,b,o,e=>e=1∧(∃ v,I b o=some v∧VR G I x v)∧RowI G I xs b (o + e) e
def CellsI (G:Ghost) (I:Imm):List AV→Nat→Nat→Prop
 | [],_,_=>True
 | c::cs,b,o=>(∃ v,I b o=some v∧VR G I c v)∧CellsI G I cs b (o + 1)
end
theorem z7r {x:AV} (h:∀ cs,x≠ .agg cs):x.cells=[x]:=by
 cases x <;> first | rfl | exact absurd rfl (h _)
theorem j3d {G:Ghost} {I:Imm} {b o e:Nat}:RowI G I [] b o e:=by simp[RowI]
theorem q2w {G:Ghost} {I:Imm} {b o:Nat}:CellsI G I [] b o:=by simp[CellsI]
theorem q0s {G:Ghost} {I:Imm} {c:AV} {cs:List AV} {b o:Nat}:
  CellsI G I (c::cs) b o↔(∃ v,I b o=some v∧VR G I c v)∧CellsI G I cs b (o + 1):=by
 rw[CellsI]
theorem x7h {G:Ghost} {I:Imm} {x:AV} {xs:List AV} {b o e:Nat}:
  RowI G I (x::xs) b o e↔x.cells.length=e∧CellsI G I x.cells b o∧RowI G I xs b (o + e) e:=by
 cases x <;> simp only[RowI,AV.cells,q0s,q2w,List.length_cons,List.length_nil,and_true,Nat.zero_add,eq_comm (a:=1)]
theorem z7j {G:Ghost} {I:Imm} {cs:List AV}:∀ {b o:Nat},
  CellsI G I cs b o↔∀ i c,cs[i]? =some c→∃ v,I b (o + i)=some v∧VR G I c v:=by
 induction cs with
 | nil=>intro b o;simp[CellsI]
 | cons c cs ih=>
   intro b o
   rw[q0s,ih]
   constructor
   ·rintro ⟨h1,h2⟩ i x hx
    cases i with
    | zero=>simp at hx;subst hx;exact h1
    | succ i=>simp at hx;have:=h2 i x hx;rwa [show o + (i + 1)=o + 1 + i by omega]
   ·intro h
    refine⟨h 0 c rfl,fun i x hx=> ?_⟩
    have:=h (i + 1) x (by simpa using hx)
    rwa [show o + (i + 1)=o + 1 + i by omega] at this
theorem z6j {G:Ghost} {I:Imm} {xs:List AV}:∀ {b o e:Nat},
  RowI G I xs b o e↔∀ k x,xs[k]? =some x→x.cells.length=e∧CellsI G I x.cells b (o + k * e):=by
 induction xs with
 | nil=>intro b o e;simp[RowI]
 | cons x xs ih=>
   intro b o e
   rw[x7h,ih]
   constructor
   ·rintro ⟨h1,h2,h3⟩ k y hy
    cases k with
    | zero=>simp at hy;subst hy;simpa using ⟨h1,h2⟩
    | succ k=>
      simp at hy
      have:=h3 k y hy
      rwa [show o + (k + 1) * e=o + e + k * e by rw[Nat.add_mul];omega]
   ·intro h
    have h0:=h 0 x rfl
    refine⟨h0.1,by simpa using h0.2,fun k y hy=> ?_⟩
    have:=h (k + 1) y (by simpa using hy)
    rwa [show o + (k + 1) * e=o + e + k * e by rw[Nat.add_mul];omega] at this
theorem z9v {G:Ghost} {I:Imm} {xs:List AV}:∀ {vs:List Value},
  VRL G I xs vs↔xs.length=vs.length∧∀ (i:Nat) x v,xs[i]? =some x→vs[i]? =some v→VR G I x v:=by
 induction xs with
 | nil=>intro vs;cases vs <;> simp[VRL]
 | cons x xs ih=>
   intro vs
   cases vs with
   | nil=>simp[VRL]
   | cons v vs=>
     simp only[VRL,List.cons.injEq]
     constructor
     ·rintro ⟨v',ws,⟨rfl,rfl⟩,h1,h2⟩
      obtain⟨h3,h4⟩:=ih.1 h2
      refine⟨by simp[h3],fun i y u hy hu=> ?_⟩
      cases i with
      | zero=>simp at hy hu;subst hy hu;exact h1
      | succ i=>simp at hy hu;exact h4 i y u hy hu
     ·rintro ⟨h1,h2⟩
      refine⟨v,vs,⟨rfl,rfl⟩,h2 0 x v rfl rfl,ih.2 ⟨by simpa using h1,fun i y u hy hu=>h2 (i + 1) y u (by simpa using hy) (by simpa using hu)⟩⟩
def GLe (G G':Ghost):Prop:=∀ g i,G g=some i→G' g=some i
def ILe (I I':Imm):Prop:=∀ b o v,I b o=some v→I' b o=some v
theorem GLe.refl (G:Ghost):GLe G G:=fun _ _ h=>h
theorem ILe.refl (I:Imm):ILe I I:=fun _ _ _ h=>h
theorem GLe.trans {G G' G'':Ghost} (h:GLe G G') (h':GLe G' G''):GLe G G'':=fun g i hi=>h' g i (h g i hi)
theorem ILe.trans {I I' I'':Imm} (h:ILe I I') (h':ILe I' I''):ILe I I'':=fun b o v hv=>h' b o v (h b o v hv)
theorem TipR.mono {G G':Ghost} (hG:GLe G G') {t:Tip} {A:Option Addr} {xs:List AV} {c:Nat} (h:TipR G t A xs c):TipR G' t A xs c:=by
 cases t with
 | no=>exact h
 | full=>exact h
 | nn=>exact h
 | nil=>exact h
 | «at» s g=>
   obtain⟨i,hi,h⟩:=h
   exact⟨i,hG _ _ hi,h⟩
mutual
theorem VR.mono {G G':Ghost} {I I':Imm} (hG:GLe G G') (hI:ILe I I'):∀ {x:AV} {v:Value},VR G I x v→VR G' I' x v
 | .undef,_,_=>by simp[VR]
 | .int ..,_,h=>by simpa [VR] using h
 | .bool _,_,h=>by simpa [VR] using h
 | .str _,_,h=>by simpa only[VR] using h
 | .agg _,_,h=>by
   simp only[VR] at h⊢
   obtain⟨vs,rfl,h⟩:=h
   exact⟨vs,rfl,VRL.mono hG hI h⟩
 | .tup _,_,h=>by
   simp only[VR] at h⊢
   obtain⟨vs,rfl,h⟩:=h
   exact⟨vs,rfl,VRL.mono hG hI h⟩
 | .sl xs t,_,h=>by
   simp only[VR] at h⊢
   obtain⟨A,n,c,rfl,h1,h2,h3,h4⟩:=h
   refine⟨A,n,c,rfl,h1,h2,h3.mono hG, ?_⟩
   rcases h4 with h4 | ⟨b,o,e,h5,h6,h7⟩
   ·exact .inl h4
   ·exact .inr ⟨b,o,e,h5,h6,RowI.mono hG hI h7⟩
 | .ob ..,_,h=>by
   simp only[VR] at h⊢
   obtain⟨i,A,c,h1,h2⟩:=h
   exact⟨i,A,c,hG _ _ h1,h2⟩
 | .ptr ..,_,h=>by
   simp only[VR] at h⊢
   obtain⟨i,h1,h2⟩:=h
   exact⟨i,hG _ _ h1,h2⟩
 | .iptr _ _,_,h=>by
   simp only[VR] at h⊢
   obtain⟨b,p,rfl,h⟩:=h
   exact⟨b,p,rfl,CellsI.mono hG hI h⟩
 | .nilptr,_,h=>by simpa [VR] using h
 | .mp ..,_,h=>by
   simp only[VR] at h⊢
   obtain⟨i,h1,h2⟩:=h
   exact⟨i,hG _ _ h1,h2⟩
 | .nilmap,_,h=>by simpa [VR] using h
 | .fn _ _,_,h=>by
   simp only[VR] at h⊢
   obtain⟨vs,rfl,h⟩:=h
   exact⟨vs,rfl,VRL.mono hG hI h⟩
 | .nilfn,_,h=>by simpa [VR] using h
 | .nilif,_,h=>by simpa [VR] using h
 | .bwd _ _,_,h=>by
   simp only[VR] at h⊢
   obtain⟨b,y,rfl,h1,h2⟩:=h
   exact⟨b,y,rfl,hI _ _ _ h1,VR.mono hG hI h2⟩
theorem VRL.mono {G G':Ghost} {I I':Imm} (hG:GLe G G') (hI:ILe I I'):∀ {xs:List AV} {vs:List Value},VRL G I xs vs→VRL G' I' xs vs
 | [],_,h=>by simpa [VRL] using h
 | _::_,_,h=>by
   simp only[VRL] at h⊢
   obtain⟨v,ws,rfl,h1,h2⟩:=h
   exact⟨v,ws,rfl,VR.mono hG hI h1,VRL.mono hG hI h2⟩
theorem RowI.mono {G G':Ghost} {I I':Imm} (hG:GLe G G') (hI:ILe I I'):∀ {xs:List AV} {b o e:Nat},RowI G I xs b o e→RowI G' I' xs b o e
 | [],_,_,_,_=>j3d
 | .agg _::_,_,_,_,h=>by
   simp only[RowI] at h⊢
   exact⟨h.1,CellsI.mono hG hI h.2.1,RowI.mono hG hI h.2.2⟩
 | .undef::_,_,_,_,h=>by
   simp only[RowI] at h⊢
   obtain⟨h1,⟨v,h2,h3⟩,h4⟩:=h
   exact⟨h1,⟨v,hI _ _ _ h2,VR.mono hG hI h3⟩,RowI.mono hG hI h4⟩
 | .int .. ::_,_,_,_,h=>by
   simp only[RowI] at h⊢
   obtain⟨h1,⟨v,h2,h3⟩,h4⟩:=h
   exact⟨h1,⟨v,hI _ _ _ h2,VR.mono hG hI h3⟩,RowI.mono hG hI h4⟩
 | .bool _::_,_,_,_,h=>by
   simp only[RowI] at h⊢
   obtain⟨h1,⟨v,h2,h3⟩,h4⟩:=h
   exact⟨h1,⟨v,hI _ _ _ h2,VR.mono hG hI h3⟩,RowI.mono hG hI h4⟩
 | .str _::_,_,_,_,h=>by
   simp only[RowI] at h⊢
   obtain⟨h1,⟨v,h2,h3⟩,h4⟩:=h
   exact⟨h1,⟨v,hI _ _ _ h2,VR.mono hG hI h3⟩,RowI.mono hG hI h4⟩
 | .tup _::_,_,_,_,h=>by
   simp only[RowI] at h⊢
   obtain⟨h1,⟨v,h2,h3⟩,h4⟩:=h
   exact⟨h1,⟨v,hI _ _ _ h2,VR.mono hG hI h3⟩,RowI.mono hG hI h4⟩
 | .sl _ _::_,_,_,_,h=>by
   simp only[RowI] at h⊢
   obtain⟨h1,⟨v,h2,h3⟩,h4⟩:=h
   exact⟨h1,⟨v,hI _ _ _ h2,VR.mono hG hI h3⟩,RowI.mono hG hI h4⟩
 | .ob .. ::_,_,_,_,h=>by
   simp only[RowI] at h⊢
   obtain⟨h1,⟨v,h2,h3⟩,h4⟩:=h
   exact⟨h1,⟨v,hI _ _ _ h2,VR.mono hG hI h3⟩,RowI.mono hG hI h4⟩
 | .ptr .. ::_,_,_,_,h=>by
   simp only[RowI] at h⊢
   obtain⟨h1,⟨v,h2,h3⟩,h4⟩:=h
   exact⟨h1,⟨v,hI _ _ _ h2,VR.mono hG hI h3⟩,RowI.mono hG hI h4⟩
 | .iptr _ _::_,_,_,_,h=>by
   simp only[RowI] at h⊢
   obtain⟨h1,⟨v,h2,h3⟩,h4⟩:=h
   exact⟨h1,⟨v,hI _ _ _ h2,VR.mono hG hI h3⟩,RowI.mono hG hI h4⟩
 | .nilptr::_,_,_,_,h=>by
   simp only[RowI] at h⊢
   obtain⟨h1,⟨v,h2,h3⟩,h4⟩:=h
   exact⟨h1,⟨v,hI _ _ _ h2,VR.mono hG hI h3⟩,RowI.mono hG hI h4⟩
 | .mp .. ::_,_,_,_,h=>by
   simp only[RowI] at h⊢
   obtain⟨h1,⟨v,h2,h3⟩,h4⟩:=h
   exact⟨h1,⟨v,hI _ _ _ h2,VR.mono hG hI h3⟩,RowI.mono hG hI h4⟩
 | .nilmap::_,_,_,_,h=>by
   simp only[RowI] at h⊢
   obtain⟨h1,⟨v,h2,h3⟩,h4⟩:=h
   exact⟨h1,⟨v,hI _ _ _ h2,VR.mono hG hI h3⟩,RowI.mono hG hI h4⟩
 | .fn _ _::_,_,_,_,h=>by
   simp only[RowI] at h⊢
   obtain⟨h1,⟨v,h2,h3⟩,h4⟩:=h
   exact⟨h1,⟨v,hI _ _ _ h2,VR.mono hG hI h3⟩,RowI.mono hG hI h4⟩
 | .nilfn::_,_,_,_,h=>by
   simp only[RowI] at h⊢
   obtain⟨h1,⟨v,h2,h3⟩,h4⟩:=h
   exact⟨h1,⟨v,hI _ _ _ h2,VR.mono hG hI h3⟩,RowI.mono hG hI h4⟩
 | .nilif::_,_,_,_,h=>by
   simp only[RowI] at h⊢
   obtain⟨h1,⟨v,h2,h3⟩,h4⟩:=h
   exact⟨h1,⟨v,hI _ _ _ h2,VR.mono hG hI h3⟩,RowI.mono hG hI h4⟩
 | .bwd _ _::_,_,_,_,h=>by
   simp only[RowI] at h⊢
   obtain⟨h1,⟨v,h2,h3⟩,h4⟩:=h
   exact⟨h1,⟨v,hI _ _ _ h2,VR.mono hG hI h3⟩,RowI.mono hG hI h4⟩
theorem CellsI.mono {G G':Ghost} {I I':Imm} (hG:GLe G G') (hI:ILe I I'):∀ {cs:List AV} {b o:Nat},CellsI G I cs b o→CellsI G' I' cs b o
 | [],_,_,_=>q2w
 | _::_,_,_,h=>by
   simp only[CellsI] at h⊢
   obtain⟨⟨v,h1,h2⟩,h3⟩:=h
   exact⟨⟨v,hI _ _ _ h1,VR.mono hG hI h2⟩,CellsI.mono hG hI h3⟩
end
def own (G:Ghost):AObj→Option Nat
 | .dead=>none
 | .blk g .. =>(G g).map (·.blk)
 | .tip g _=>(G g).bind fun i=>if i.room then some i.blk else none
 | .map g _=>(G g).map (·.blk)
def ElemsR (G:Ghost) (I:Imm) (es:List AV) (cs:Array Value) (e:Nat):Prop:=
 ∀ k x,es[k]? =some x→x.cells.length=e∧∀ j c,x.cells[j]? =some c→∃ v,cs[k * e + j]? =some v∧VR G I c v
def MapR (G:Ghost) (I:Imm):List (AV×AV)→List MapEntry→Prop
 | [],es=>es=[]
 | x::xs,es=>∃ e rest,es=e::rest∧VR G I x.1 e.key∧VR G I x.2 e.val∧MapR G I xs rest
def ObjR (G:Ghost) (I:Imm) (w:World) (slot:Nat):AObj→Prop
 | .dead=>True
 | .blk g es row grow fz=>∃ i cs t,G g=some i∧i.slot=slot∧w.heap[i.blk]? =some (.cells cs t (0,0))∧cs.size=i.cap * i.esz∧0 < i.esz∧
  es.length≤i.cap∧(grow=false→es.length=i.cap)∧(fz≤es.length∧(row=false→fz=0))∧ElemsR G I es cs i.esz∧∀ o v,I i.blk o=some v→o < fz * i.esz
 | .tip g e=>∃ i,G g=some i∧i.slot=slot∧i.esz=e∧(i.room=true→
  ∃ cs t,w.heap[i.blk]? =some (.cells cs t (0,0))∧i.capE≤cs.size∧∀ o v,I i.blk o=some v→o < i.endp)
 | .map g es=>∃ i ents clk,G g=some i∧i.slot=slot∧w.heap[i.blk]? =some (.map ents clk)∧MapR G I es ents.toList
structure Rel (G:Ghost) (I:Imm) (h:List AObj) (w:World):Prop where
 imm:∀ b o v,I b o=some v→w.cell? ⟨b,o,none⟩=some v
 obj:∀ (i:Nat) o,h[i]? =some o→ObjR G I w i o
 inj:∀ (i j:Nat) oi oj b,h[i]? =some oi→h[j]? =some oj→own G oi=some b→own G oj=some b→i=j
theorem MapR.mono {G G':Ghost} {I I':Imm} (hG:GLe G G') (hI:ILe I I'):∀ {xs:List (AV×AV)} {es:List MapEntry},MapR G I xs es→MapR G' I' xs es
 | [],_,h=>h
 | _::_,_,h=>by
   obtain⟨e,rest,rfl,h1,h2,h3⟩:=h
   exact⟨e,rest,rfl,VR.mono hG hI h1,VR.mono hG hI h2,MapR.mono hG hI h3⟩
theorem ElemsR.mono {G G':Ghost} {I I':Imm} (hG:GLe G G') (hI:ILe I I') {es:List AV} {cs:Array Value} {e:Nat} (h:ElemsR G I es cs e):ElemsR G' I' es cs e:=
 fun k x hx=>⟨(h k x hx).1,fun j c hc=>let ⟨v,hv,hr⟩:=(h k x hx).2 j c hc;⟨v,hv,VR.mono hG hI hr⟩⟩
theorem ObjR.ext {G G':Ghost} {I:Imm} {w:World} {s:Nat} {o:AObj} (hG:GLe G G') (h:ObjR G I w s o):ObjR G' I w s o:=by
 cases o with
 | dead=>trivial
 | blk g es row grow fz=>
   obtain⟨i,cs,t,h1,h2,h3,h4,h5,h6,h7,h8,h9,h10⟩:=h
   exact⟨i,cs,t,hG _ _ h1,h2,h3,h4,h5,h6,h7,h8,h9.mono hG (ILe.refl _),h10⟩
 | tip g e=>
   obtain⟨i,h1,h2⟩:=h
   exact⟨i,hG _ _ h1,h2⟩
 | map g es=>
   obtain⟨i,ents,clk,h1,h2,h3,h4⟩:=h
   exact⟨i,ents,clk,hG _ _ h1,h2,h3,h4.mono hG (ILe.refl _)⟩
theorem q0t {G G':Ghost} {I:Imm} {w:World} {s:Nat} {o:AObj} (hG:GLe G G') (h:ObjR G I w s o):own G' o=own G o:=by
 cases o with
 | dead=>rfl
 | blk g es row grow fz=>
   obtain⟨i,cs,t,h1,_⟩:=h
   simp[own,h1,hG _ _ h1]
 | tip g e=>
   obtain⟨i,h1,_⟩:=h
   simp[own,h1,hG _ _ h1]
 | map g es=>
   obtain⟨i,ents,clk,h1,_⟩:=h
   simp[own,h1,hG _ _ h1]
theorem Rel.ext {G G':Ghost} {I:Imm} {h:List AObj} {w:World} (hG:GLe G G') (r:Rel G I h w):Rel G' I h w:=
 ⟨r.imm,fun i o ho=>(r.obj i o ho).ext hG,fun i j oi oj b hi hj h1 h2=>
  r.inj i j oi oj b hi hj (by rwa [q0t hG (r.obj i oi hi)] at h1) (by rwa [q0t hG (r.obj j oj hj)] at h2)⟩
theorem q1w {G:Ghost} {I:Imm} {w:World} {s b:Nat} {o:AObj} (h:ObjR G I w s o) (ho:own G o=some b):∃ x,w.heap[b]? =some x:=by
 cases o with
 | dead=>simp[own] at ho
 | blk g es row grow fz=>
   obtain⟨i,cs,t,h1,_,h3,_⟩:=h
   simp[own,h1] at ho
   subst ho
   exact⟨_,h3⟩
 | tip g e=>
   obtain⟨i,h1,_,_,h3⟩:=h
   simp[own,h1] at ho
   obtain⟨hr,rfl⟩:=ho
   obtain⟨cs,t,h4,_⟩:=h3 hr
   exact⟨_,h4⟩
 | map g es=>
   obtain⟨i,ents,clk,h1,_,h3,_⟩:=h
   simp[own,h1] at ho
   subst ho
   exact⟨_,h3⟩
theorem q0a {G:Ghost} {I:Imm} {w:World} {s b:Nat} {o:AObj} (h:ObjR G I w s o) (ho:own G o=some b):b < w.heap.size:=by
 obtain⟨x,hx⟩:=q1w h ho
 exact (Array.getElem?_eq_some_iff.1 hx).1
theorem ObjR.world {G:Ghost} {I:Imm} {w w':World} {s:Nat} {o:AObj} (h:ObjR G I w s o) (hk:∀ b,own G o=some b→w'.heap[b]? =w.heap[b]?):ObjR G I w' s o:=by
 cases o with
 | dead=>trivial
 | blk g es row grow fz=>
   obtain⟨i,cs,t,h1,h2,h3,h4⟩:=h
   exact⟨i,cs,t,h1,h2,by rw[hk _ (by simp[own,h1])];exact h3,h4⟩
 | tip g e=>
   obtain⟨i,h1,h2,h2',h3⟩:=h
   refine⟨i,h1,h2,h2',fun hr=> ?_⟩
   obtain⟨cs,t,h4,h5⟩:=h3 hr
   exact⟨cs,t,by rw[hk _ (by simp[own,h1,hr])];exact h4,h5⟩
 | map g es=>
   obtain⟨i,ents,clk,h1,h2,h3,h4⟩:=h
   exact⟨i,ents,clk,h1,h2,by rw[hk _ (by simp[own,h1])];exact h3,h4⟩
theorem z5t {w w':World} {a:Addr} {v:Value} (h:w.cell? a=some v) (hk:∀ x,w.heap[a.block]? =some x→w'.heap[a.block]? =some x):w'.cell? a=some v:=by
 unfold World.cell? at h⊢
 cases hb:w.heap[a.block]? with
 | none=>simp[hb] at h
 | some x=>rw[hk x hb];rw[hb] at h;exact h
theorem Rel.world {G:Ghost} {I:Imm} {h:List AObj} {w w':World} (r:Rel G I h w) (hk:∀ (b:Nat) (x:Obj),w.heap[b]? =some x→w'.heap[b]? =some x):Rel G I h w':=
 ⟨fun b o v hv=>z5t (r.imm b o v hv) (hk _),fun i o ho=>(r.obj i o ho).world fun b hb=>by
  obtain⟨x,hx⟩:=q1w (r.obj i o ho) hb
  rw[hx,hk _ _ hx],r.inj⟩
theorem getElem?_set_cases {α:Type} {l:List α} {i j:Nat} {a b:α} (h:(l.set i a)[j]? =some b):(j=i∧b=a)∨(j≠i∧l[j]? =some b):=by
 rw[List.getElem?_set] at h
 by_cases hij:i=j
 ·subst hij
  by_cases hl:i < l.length
  ·simp[hl] at h
   exact .inl ⟨rfl,h.symm⟩
  ·simp[hl] at h
 ·simp[hij] at h
  exact .inr ⟨fun e=>hij e.symm,h⟩
theorem Rel.set {G:Ghost} {I:Imm} {h:List AObj} {w:World} (r:Rel G I h w) (s:Nat) (o:AObj) (ho:ObjR G I w s o)
  (hd:∀ (j:Nat) oj b,j≠s→h[j]? =some oj→own G oj=some b→own G o=some b→False):Rel G I (h.set s o) w:=by
 refine⟨r.imm,fun i x hx=> ?_,fun i j oi oj b hi hj h1 h2=> ?_⟩
 ·rcases getElem?_set_cases hx with ⟨rfl,rfl⟩ | ⟨_,hx⟩
  ·exact ho
  ·exact r.obj i x hx
 ·rcases getElem?_set_cases hi with ⟨hi1,hi2⟩ | ⟨hi1,hi2⟩ <;> rcases getElem?_set_cases hj with ⟨hj1,hj2⟩ | ⟨hj1,hj2⟩
  ·rw[hi1,hj1]
  ·subst hi2
   exact (hd j oj b hj1 hj2 h2 h1).elim
  ·subst hj2
   exact (hd i oi b hi1 hi2 h1 h2).elim
  ·exact r.inj i j oi oj b hi2 hj2 h1 h2
theorem Rel.kill {G:Ghost} {I:Imm} {h:List AObj} {w:World} (r:Rel G I h w) (s:Nat):Rel G I (h.set s .dead) w:=
 r.set s .dead trivial (fun _ _ _ _ _ _ h=>by simp[own] at h)
structure Fr (G:Ghost) (h:List AObj) (w w':World):Prop where
 os:w'.os=w.os
 tape:w'.tape=w.tape
 output:w'.output=w.output
 size:w.heap.size≤w'.heap.size
 kept:∀ b,b < w.heap.size→(∀ (i:Nat) o,h[i]? =some o→own G o≠some b)→w'.heap[b]? =w.heap[b]?
theorem Fr.refl (G:Ghost) (h:List AObj) (w:World):Fr G h w w:=⟨rfl,rfl,rfl,Nat.le_refl _,fun _ _ _=>rfl⟩
theorem Fr.drew {G:Ghost} {h:List AObj} {w w':World} (f:Fr G h w w'):Fr G h w w'.drew:=⟨f.os,f.tape,f.output,f.size,f.kept⟩
def OwnLe (G:Ghost) (h:List AObj) (w:World) (G':Ghost) (h':List AObj):Prop:=
 ∀ (i:Nat) o b,h'[i]? =some o→own G' o=some b→(∃ (j:Nat) (x:AObj),h[j]? =some x∧own G x=some b)∨w.heap.size≤b
theorem Fr.trans {G G':Ghost} {h h':List AObj} {w w' w'':World} (f:Fr G h w w') (ho:OwnLe G h w G' h') (f':Fr G' h' w' w''):Fr G h w w'':=
 ⟨f'.os.trans f.os,f'.tape.trans f.tape,f'.output.trans f.output,Nat.le_trans f.size f'.size,fun b hb hn=>by
  rw[f'.kept b (Nat.lt_of_lt_of_le hb f.size) (fun i o hi hw=> ?_),f.kept b hb hn]
  rcases ho i o b hi hw with ⟨j,x,hj,hx⟩ | hge
  ·exact hn j x hj hx
  ·omega⟩
theorem OwnLe.refl (G:Ghost) (h:List AObj) (w:World):OwnLe G h w G h:=fun i o _ hi hb=> .inl ⟨i,o,hi,hb⟩
theorem OwnLe.trans {G G' G'':Ghost} {h h' h'':List AObj} {w w':World} (a:OwnLe G h w G' h') (hs:w.heap.size≤w'.heap.size) (b:OwnLe G' h' w' G'' h''):OwnLe G h w G'' h'':=
 fun i o k hi hk=>by
  rcases b i o k hi hk with ⟨j,x,hj,hx⟩ | hge
  ·exact a j x k hj hx
  ·exact .inr (Nat.le_trans hs hge)
def IFr (G:Ghost) (h:List AObj) (w:World) (I I':Imm):Prop:=
 ∀ b,b < w.heap.size→(∀ (i:Nat) o,h[i]? =some o→own G o≠some b)→∀ o v,I' b o=some v→I b o=some v
theorem IFr.refl {G:Ghost} {h:List AObj} {w:World} {I:Imm}:IFr G h w I I:=fun _ _ _ _ _ hv=>hv
theorem IFr.trans {G G':Ghost} {h h':List AObj} {w w':World} {I I' I'':Imm} (a:IFr G h w I I') (ho:OwnLe G h w G' h') (hs:w.heap.size≤w'.heap.size) (b:IFr G' h' w' I' I''):IFr G h w I I'':=
 fun k hk hn o v hv=>a k hk hn o v (b k (Nat.lt_of_lt_of_le hk hs) (fun i x hi hx=>by
  rcases ho i x k hi hx with ⟨j,y,hj,hy⟩ | hge
  ·exact hn j y hj hy
  ·omega) o v hv)
section
def Step (G:Ghost) (I:Imm) (h:List AObj) (w:World) (gen slot:Nat) (r:Result Next) (v:AV) (h':List AObj):Prop:=
 ∃ nx cv w' G' I',r= .ok nx w'∧(nx= .value cv∨(nx= .skip∧cv=undef))∧VR G' I' v cv∧Rel G' I' h' w'∧GLe G G'∧ILe I I'∧
   (∀ g,g≠gen→G' g=G g)∧(∀ i,G' gen=some i→i.slot=slot)∧OwnLe G h w G' h'∧Fr G h w w'∧IFr G h w I I'
section
variable {P:Program} {G:Ghost} {I:Imm} {h:List AObj} {w:World} {gen slot:Nat}
theorem Step.pure {r:Result Next} {v:AV} {cv:Value} (hg:G gen=none) (rel:Rel G I h w) (hr:r= .ok (.value cv) w) (hv:VR G I v cv):Step G I h w gen slot r v h:=
 ⟨_,cv,w,G,I,hr, .inl rfl,hv,rel,GLe.refl _,ILe.refl _,fun _ _=>rfl,fun i hi=>by simp[hg] at hi,OwnLe.refl _ _ _,Fr.refl _ _ _,IFr.refl⟩
theorem Step.quiet {r:Result Next} {v:AV} {cv:Value} {w':World} {I':Imm} (hg:G gen=none) (rel:Rel G I' h w') (hI:ILe I I') (hr:r= .ok (.value cv) w') (hv:VR G I' v cv) (hf:Fr G h w w') (hi:IFr G h w I I'):Step G I h w gen slot r v h:=
 ⟨_,cv,w',G,I',hr, .inl rfl,hv,rel,GLe.refl _,hI,fun _ _=>rfl,fun i hi=>by simp[hg] at hi,OwnLe.refl _ _ _,hf,hi⟩
theorem z7o (w:World) (o:Obj):(w.alloc o).heap[w.heap.size]? =some o:=by
 show (w.heap.push o)[w.heap.size]? =some o
 simp
theorem q8r (w:World) (o:Obj) {b:Nat} (hb:b < w.heap.size):(w.alloc o).heap[b]? =w.heap[b]? :=by
 show (w.heap.push o)[b]? =w.heap[b]?
 simp[Array.getElem?_push,Nat.ne_of_lt hb]
theorem z6s (w:World) (o:Obj):(w.alloc o).heap.size=w.heap.size + 1:=by
 show (w.heap.push o).size=w.heap.size + 1
 simp
theorem z3f (w:World) (o:Obj) {b:Nat} {x:Obj} (hb:w.heap[b]? =some x):(w.alloc o).heap[b]? =some x:=by
 rw[q8r w o (Array.getElem?_eq_some_iff.1 hb).1,hb]
theorem Fr.alloc {w':World} (f:Fr G h w w') (o:Obj):Fr G h w (w'.alloc o):=
 ⟨f.os,f.tape,f.output,by have:=f.size;rw[z6s];omega,fun b hb hn=>by
  rw[q8r w' o (Nat.lt_of_lt_of_le hb f.size)]
  exact f.kept b hb hn⟩
def Ghost.put (G:Ghost) (g:Nat) (i:GInfo):Ghost:=fun k=>if k=g then some i else G k
theorem Ghost.put_le {G:Ghost} {g:Nat} (i:GInfo) (hg:G g=none):GLe G (G.put g i):=fun k j hk=>by
 unfold Ghost.put
 split
 ·rename_i e;subst e;simp[hg] at hk
 ·exact hk
@[simp] theorem Ghost.put_same {G:Ghost} {g:Nat} {i:GInfo}:G.put g i g=some i:=by simp[Ghost.put]
theorem Ghost.put_other {G:Ghost} {g k:Nat} {i:GInfo} (hk:k≠g):G.put g i k=G k:=by simp[Ghost.put,hk]
theorem Rel.new {G':Ghost} {w':World} {o:AObj} (r:Rel G I h w) (hG:GLe G G') (hk:∀ (b:Nat) (x:Obj),w.heap[b]? =some x→w'.heap[b]? =some x)
  (ho:ObjR G' I w' slot o) (hb:∀ b,own G' o=some b→w.heap.size≤b):Rel G' I (h.set slot o) w':=
 ((r.world hk).ext hG).set slot o ho fun j oj b _ hj h1 h2=>by
   rw[q0t hG ((r.world hk).obj j oj hj)] at h1
   have:=q0a (r.obj j oj hj) h1
   have:=hb b h2
   omega
theorem OwnLe.new {G':Ghost} {o:AObj} (r:Rel G I h w) (hG:GLe G G') (hb:∀ b,own G' o=some b→w.heap.size≤b):OwnLe G h w G' (h.set slot o):=
 fun i x b hi hx=>by
  rcases getElem?_set_cases hi with ⟨_,rfl⟩ | ⟨_,hi⟩
  ·exact .inr (hb b hx)
  ·rw[q0t hG (r.obj i x hi)] at hx
   exact .inl ⟨i,x,hi,hx⟩
theorem q0b {x:AV} {cv:Value} (hd:x.def? =true) (hv:VR G I x cv):x.cells.length=cv.cells.size∧∀ (j:Nat) c,x.cells[j]? =some c→∃ v,cv.cells[j]? =some v∧VR G I c v:=by
 by_cases ha:∃ cs,x= .agg cs
 ·obtain⟨cs,rfl⟩:=ha
  simp only[VR] at hv
  obtain⟨vs,rfl,hv⟩:=hv
  obtain⟨h1,h2⟩:=z9v.1 hv
  refine⟨by simpa [AV.cells,Value.cells] using h1,fun j c hc=> ?_⟩
  simp only[AV.cells] at hc
  have hj:j < vs.toList.length:=by
   rw[←h1]
   exact (List.getElem?_eq_some_iff.1 hc).1
  refine⟨vs.toList[j], ?_,h2 j c _ hc (List.getElem?_eq_getElem hj)⟩
  simp only[Value.cells]
  rw[←Array.getElem?_toList]
  exact List.getElem?_eq_getElem hj
 ·have hn:∀ cs,x≠ .agg cs:=fun cs e=>ha ⟨cs,e⟩
  have hc:cv.cells= #[cv]:=by
   cases x <;> simp only[VR] at hv <;> first
    | exact absurd rfl (hn _)
    | (simp[AV.def?] at hd;done)
    | (subst hv;rfl)
    | (obtain⟨rfl,_⟩:=hv;rfl)
    | (obtain⟨_,_,_,rfl,_⟩:=hv;rfl)
    | (obtain⟨_,_,_,_,_,rfl,_⟩:=hv;rfl)
    | (obtain⟨_,_,_,rfl⟩:=hv;rfl)
    | (obtain⟨_,_,rfl,_⟩:=hv;rfl)
    | (obtain⟨_,rfl,_⟩:=hv;rfl)
  rw[z7r hn,hc]
  refine⟨rfl,fun j c hj=> ?_⟩
  cases j with
  | zero=>simp at hj;subst hj;exact⟨cv,rfl,hv⟩
  | succ j=>simp at hj
theorem j3e {r:Result Next} {x:AV} {cv:Value} {t:TypeId} (hg:G gen=none) (rel:Rel G I h w) (hd:x.def? =true) (hne:x.cells≠[]) (hv:VR G I x cv)
  (hr:r= .ok (.value (.pointer (some ⟨w.heap.size,0,none⟩))) (w.alloc (.cells cv.cells t))):
  Step G I h w gen slot r (.ptr slot gen 0 0) (h.set slot (.blk gen [x] false false 0)):=by
 obtain⟨hl,hc⟩:=q0b hd hv
 have hG:=Ghost.put_le (G:=G) (g:=gen) ⟨slot,w.heap.size,cv.cells.size,1,0,0,false⟩ hg
 have hpos:0 < cv.cells.size:=by
  rw[←hl]
  exact List.length_pos_iff.2 hne
 have hob:∀ b,own (G.put gen ⟨slot,w.heap.size,cv.cells.size,1,0,0,false⟩) (.blk gen [x] false false 0)=some b→w.heap.size≤b:=by
  intro b hb
  simp[own] at hb
  omega
 refine⟨_,_,_,_,I,hr, .inl rfl, ?_,rel.new hG (fun b y hb=>z3f w _ hb) ?_ hob,hG,ILe.refl _,fun g hg'=>Ghost.put_other hg',fun i hi=> ?_,OwnLe.new rel hG hob,(Fr.refl _ _ _).alloc _,IFr.refl⟩
 ·simp only[VR]
  exact⟨_,Ghost.put_same,rfl,by simp⟩
 ·refine⟨_,cv.cells,t,Ghost.put_same,rfl,z7o w _,by simp,hpos,by simp,fun _=>by simp,⟨by simp,fun _=>rfl⟩, ?_,fun o v ho=> ?_⟩
  ·intro k y hk
   cases k with
   | zero=>
     simp at hk
     subst hk
     refine⟨hl,fun j c hj=> ?_⟩
     obtain⟨v,hv1,hv2⟩:=hc j c hj
     exact⟨v,by simpa using hv1,VR.mono hG (ILe.refl _) hv2⟩
   | succ k=>simp at hk
  ·have:=rel.imm _ _ _ ho
   have:=World.block_lt_of_cell? w _ this
   simp at this
 ·simp at hi
  subst hi
  rfl
def j6n:TypeDesc→Bool
 | .struct _ | .array _ _=>true
 | _=>false
theorem q0c {t:TypeId} {d:TypeDesc} (hu:P.underlying t=some d):(isAgg t).run P w= .ok (j6n d) w:=by
 unfold isAgg
 simp only[Sem.run_bind,run_underlying hu,Result.andThen]
 cases d <;> rfl
def v6m (G:Ghost) (I:Imm) (w:World) (b o:Nat) (cells:List AV):Prop:=
 ∀ (j:Nat) c,cells[j]? =some c→∃ cv,w.cell? ⟨b,o + j,none⟩=some cv∧VR G I c cv
theorem q0u {b o off:Nat} {cells:List AV} {t:TypeId} {sz:Option Nat} {v:AV} (hh:v6m G I w b o cells) (hs:z8d P t=some sz) (hr:z2f cells off sz=some v):
  ∃ cv,(loadVar t ⟨b,o + off,none⟩).run P w= .ok cv w∧VR G I v cv:=by
 cases hu:P.underlying t with
 | none=>simp[z8d,hu] at hs
 | some d=>
   have hagg:=q0c (w:=w) hu
   by_cases ha:j6n d=true
   ·obtain⟨n,hn,rfl⟩:∃ n,sizeP P t=some n∧sz=some n:=by
     unfold z8d at hs
     rw[hu] at hs
     cases d <;> simp[j6n] at ha <;> (simp at hs;obtain⟨n,h1,h2⟩:=hs;exact⟨n,h1,h2.symm⟩)
    simp only[z2f] at hr
    split at hr
    ·rename_i hle
     simp only[Option.some.injEq] at hr
     subst hr
     have hl:=run_loadCells (P:=P) w ⟨b,o + off,none⟩ n (fun j=>(w.cell? ⟨b,o + off + j,none⟩).getD undef) (fun j hj=>by
      rw[Addr.add_lit]
      obtain⟨cv,hc,_⟩:=hh (off + j) (cells[off + j]'(by omega)) (List.getElem?_eq_getElem (by omega))
      rw[show o + off + j=o + (off + j) by omega,hc]
      rfl)
     refine⟨.agg ((List.range n).map fun j=>(w.cell? ⟨b,o + off + j,none⟩).getD undef).toArray, ?_, ?_⟩
     ·unfold sizeP at hn
      cases hi:P.info? t with
      | none=>simp[hi] at hn
      | some i=>
        simp[hi] at hn
        simp[loadVar,hagg,ha,sizeOf,typeInfo,hi,hn,hl]
     ·simp only[VR]
      refine⟨_,rfl,z9v.2 ⟨by simp;omega,fun j c u hj hu=> ?_⟩⟩
      simp only[List.getElem?_map] at hu
      have hjn:j < n:=by
       rcases Nat.lt_or_ge j n with hlt | hge
       ·exact hlt
       ·rw[List.getElem?_eq_none (by simpa using hge)] at hu
        simp at hu
      simp[hjn] at hu
      rw[List.getElem?_take_of_lt hjn,List.getElem?_drop] at hj
      obtain⟨cv,hc,hv⟩:=hh (off + j) c hj
      rw[show o + (off + j)=o + off + j by omega] at hc
      rw[hc] at hu
      simp at hu
      subst hu
      exact hv
    ·simp at hr
   ·have hz:sz=none:=by
     unfold z8d at hs
     rw[hu] at hs
     cases d <;> first | (simp[j6n] at ha;done) | (simp at hs;exact hs.symm)
    subst hz
    simp only[z2f] at hr
    obtain⟨cv,hc,hv⟩:=hh off v hr
    have ha':j6n d=false:=by simpa using ha
    exact⟨cv,by simp[loadVar,hagg,ha',hc],hv⟩
theorem z9l {s g:Nat} {es:List AV} {row grow:Bool} {fz:Nat} (hb:z1s h s g=some (es,row,grow,fz)):h[s]? =some (.blk g es row grow fz):=by
 unfold z1s at hb
 split at hb
 ·rename_i heq
  split at hb
  ·rename_i e
   subst e
   simp at hb
   obtain⟨rfl,rfl,rfl,rfl⟩:=hb
   exact heq
  ·simp at hb
 ·simp at hb
theorem x4m {s g:Nat} {es:List (AV×AV)} (hb:z5s h s g=some es):h[s]? =some (.map g es):=by
 unfold z5s at hb
 split at hb
 ·rename_i heq
  split at hb
  ·rename_i e
   subst e
   simp at hb
   subst hb
   exact heq
  ·simp at hb
 ·simp at hb
theorem x2i {i:GInfo} {cs:Array Value} {t:TypeId} {es:List AV} {e:AV} {k:Nat} (hb:w.heap[i.blk]? =some (.cells cs t (0,0))) (hE:ElemsR G I es cs i.esz) (he:es[k]? =some e):v6m G I w i.blk (k * i.esz) e.cells:=fun j c hj=>by
 obtain⟨v,hv,hr⟩:=(hE k e he).2 j c hj
 exact⟨v,by simp[World.cell?,hb,hv],hr⟩
theorem j9j {cells:List AV} {b o:Nat} (rel:Rel G I h w) (hc:CellsI G I cells b o):v6m G I w b o cells:=fun j c hj=>by
 obtain⟨v,hv,hr⟩:=z7j.1 hc j c hj
 exact⟨v,rel.imm _ _ _ hv,hr⟩
theorem k5n {s g k o:Nat} {pa:Value} {t:TypeId} {sz:Option Nat} {es:List AV} {row grow:Bool} {fz:Nat} {e v:AV} (rel:Rel G I h w) (hp:VR G I (.ptr s g k o) pa) (hs:z8d P t=some sz)
  (hb:z1s h s g=some (es,row,grow,fz)) (he:es[k]? =some e) (hr:z2f e.cells o sz=some v):∃ cv,(Instr.loadAt t pa).run P w= .ok cv w∧VR G I v cv:=by
 simp only[VR] at hp
 obtain⟨i,hi,_,rfl⟩:=hp
 obtain⟨i',cs,ty,hi',_,hw,_,_,_,_,_,hE,_⟩:=rel.obj s _ (z9l hb)
 obtain rfl:i=i':=by rw[hi] at hi';simpa using hi'
 obtain⟨cv,hrun,hv⟩:=q0u (x2i hw hE he) hs hr
 exact⟨cv,by simpa [Instr.loadAt,Instr.sureAddr] using hrun,hv⟩
theorem j9k {cs:List AV} {o:Nat} {pa:Value} {t:TypeId} {sz:Option Nat} {v:AV} (rel:Rel G I h w) (hp:VR G I (.iptr cs o) pa) (hs:z8d P t=some sz) (hr:z2f cs o sz=some v):∃ cv,(Instr.loadAt t pa).run P w= .ok cv w∧VR G I v cv:=by
 simp only[VR] at hp
 obtain⟨b,p,rfl,hc⟩:=hp
 obtain⟨cv,hrun,hv⟩:=q0u (j9j rel hc) hs hr
 exact⟨cv,by simpa [Instr.loadAt,Instr.sureAddr] using hrun,hv⟩
end
end
section
theorem z4h (h:List AObj) (a b:List (Nat×Nat)):freezeAll h (a++b)=freezeAll (freezeAll h a) b:=by
 induction a generalizing h with
 | nil=>rfl
 | cons x a ih=>simp only[List.cons_append,freezeAll];rw[ih]
def freeze1 (h:List AObj) (s n:Nat):List AObj:=
 match h[s]? with
 | some (.blk g es row grow fz)=>h.set s (.blk g es row grow (max fz n))
 | _=>h
theorem z7c (h:List AObj) (s n:Nat):freezeAll h [(s,n)]=freeze1 h s n:=by
 simp only[freezeAll,freeze1]
 cases h[s]? with
 | none=>rfl
 | some o=>cases o <;> rfl
def Frozen (h h1:List AObj):Prop:=
 h1.length=h.length∧∀ (i:Nat) o,h[i]? =some o→match o with
  | .blk g es row grow _=>∃ fz',h1[i]? =some (.blk g es row grow fz')
  | o=>h1[i]? =some o
theorem Frozen.refl (h:List AObj):Frozen h h:=⟨rfl,fun i o ho=>by cases o <;> first | exact ho | exact⟨_,ho⟩⟩
theorem Frozen.trans {h h1 h2:List AObj} (a:Frozen h h1) (b:Frozen h1 h2):Frozen h h2:=
 ⟨b.1.trans a.1,fun i o ho=>by
  have ha:=a.2 i o ho
  cases o with
  | blk g es row grow fz=>
    obtain⟨fz',h1'⟩:=ha
    exact b.2 i _ h1'
  | dead=>exact b.2 i _ ha
  | tip g e=>exact b.2 i _ ha
  | map g es=>exact b.2 i _ ha⟩
theorem x1u (h:List AObj) (s n:Nat):Frozen h (freeze1 h s n):=by
 unfold freeze1
 split
 ·rename_i g es row grow fz heq
  refine⟨by simp,fun i o ho=> ?_⟩
  by_cases hi:i=s
  ·subst hi
   rw[heq] at ho
   simp at ho
   subst ho
   have:=(List.getElem?_eq_some_iff.1 heq).1
   exact⟨_,by rw[List.getElem?_set_self this]⟩
  ·have:(h.set s (.blk g es row grow (max fz n)))[i]? =some o:=by rw[List.getElem?_set_ne (Ne.symm hi)];exact ho
   cases o <;> first | exact this | exact⟨_,this⟩
 ·exact Frozen.refl h
theorem z2j (h:List AObj) (l:List (Nat×Nat)):Frozen h (freezeAll h l):=by
 induction l generalizing h with
 | nil=>exact Frozen.refl h
 | cons x l ih=>
   rw[show x::l=[x]++l from rfl,z4h,z7c]
   exact (x1u h _ _).trans (ih _)
section
variable {P:Program} {G:Ghost} {I:Imm} {h:List AObj} {w:World}
theorem q6d {h1:List AObj} (f:Frozen h h1) {i b:Nat} {o:AObj} (ho:h1[i]? =some o) (hb:own G o=some b):∃ o',h[i]? =some o'∧own G o'=some b:=by
 have hi:i < h.length:=by
  rw[←f.1]
  exact (List.getElem?_eq_some_iff.1 ho).1
 have hx:=f.2 i h[i] (List.getElem?_eq_getElem hi)
 refine⟨h[i],List.getElem?_eq_getElem hi, ?_⟩
 cases hc:h[i] with
 | blk g es row grow fz=>
   rw[hc] at hx
   obtain⟨fz',h2⟩:=hx
   rw[ho] at h2
   simp at h2
   subst h2
   exact hb
 | dead=>rw[hc] at hx;simp only at hx;rw[ho] at hx;simp at hx;subst hx;exact hb
 | tip g e=>rw[hc] at hx;simp only at hx;rw[ho] at hx;simp at hx;subst hx;exact hb
 | map g es=>rw[hc] at hx;simp only at hx;rw[ho] at hx;simp at hx;subst hx;exact hb
theorem j0g {s g n:Nat} {es:List AV} {grow:Bool} {fz:Nat} (rel:Rel G I h w) (hs:h[s]? =some (.blk g es true grow fz)) (hn:n≤es.length):
  ∃ I' i,ILe I I'∧Rel G I' (freeze1 h s n) w∧G g=some i∧0 < i.esz∧(∀ k x,k < n→es[k]? =some x→x.cells.length=i.esz∧CellsI G I' x.cells i.blk (k * i.esz))∧(∀ b,b≠i.blk→∀ o v,I' b o=some v→I b o=some v):=by
 have hob:=rel.obj s _ hs
 obtain⟨i,cs,t,hi,hsl,hw,hsz,hpos,hcap,hgr,hfz,hE,hI⟩:=hob
 let I':Imm:=fun b o=>if b=i.blk∧o < max fz n * i.esz then w.cell? ⟨b,o,none⟩ else I b o
 have hle:ILe I I':=fun b o v hv=>by
  show (if b=i.blk∧o < max fz n * i.esz then w.cell? ⟨b,o,none⟩ else I b o)=some v
  split
  ·exact rel.imm b o v hv
  ·exact hv
 have hother:∀ b o v,b≠i.blk→I' b o=some v→I b o=some v:=fun b o v hb hv=>by
  have:(if b=i.blk∧o < max fz n * i.esz then w.cell? ⟨b,o,none⟩ else I b o)=some v:=hv
  rwa [if_neg (fun hc=>hb hc.1)] at this
 have hown:own G (.blk g es true grow fz)=some i.blk:=by simp[own,hi]
 have hslt:=(List.getElem?_eq_some_iff.1 hs).1
 have hf:freeze1 h s n=h.set s (.blk g es true grow (max fz n)):=by simp[freeze1,hs]
 refine⟨I',i,hle, ?_,hi,hpos, ?_,fun b hb o v hv=>hother b o v hb hv⟩
 ·rw[hf]
  refine⟨fun b o v hv=> ?_,fun j o hj=> ?_,fun j k oj ok b hj hk h1 h2=> ?_⟩
  ·have:(if b=i.blk∧o < max fz n * i.esz then w.cell? ⟨b,o,none⟩ else I b o)=some v:=hv
   split at this
   ·exact this
   ·exact rel.imm b o v this
  ·rcases getElem?_set_cases hj with ⟨rfl,rfl⟩ | ⟨hne,hj⟩
   ·refine⟨i,cs,t,hi,hsl,hw,hsz,hpos,hcap,hgr,⟨by have:=hfz.1;omega,fun h=>by simp at h⟩,hE.mono (GLe.refl _) hle,fun o v hv=> ?_⟩
    have:(if i.blk=i.blk∧o < max fz n * i.esz then w.cell? ⟨i.blk,o,none⟩ else I i.blk o)=some v:=hv
    split at this
    ·rename_i hc;exact hc.2
    ·have:=hI o v this
     have:fz * i.esz≤max fz n * i.esz:=Nat.mul_le_mul_right _ (Nat.le_max_left _ _)
     omega
   ·have ho:=rel.obj j o hj
    have hnb:∀ b,own G o=some b→b≠i.blk:=fun b hb e=>by
     subst e
     exact hne (rel.inj j s o _ _ hj hs hb hown)
    cases o with
    | dead=>trivial
    | blk g' es' row' grow' fz'=>
      obtain⟨i',cs',t',h1,h2,h3,h4,h5,h6,h7,h8,h9,h10⟩:=ho
      have:=hnb i'.blk (by simp[own,h1])
      exact⟨i',cs',t',h1,h2,h3,h4,h5,h6,h7,h8,h9.mono (GLe.refl _) hle,fun o v hv=>h10 o v (hother _ _ _ this hv)⟩
    | tip g' e=>
      obtain⟨i',h1,h2,h3,h4⟩:=ho
      refine⟨i',h1,h2,h3,fun hr=> ?_⟩
      obtain⟨cs',t',h5,h6,h7⟩:=h4 hr
      have:=hnb i'.blk (by simp[own,h1,hr])
      exact⟨cs',t',h5,h6,fun o v hv=>h7 o v (hother _ _ _ this hv)⟩
    | map g' es'=>
      obtain⟨i',ents,clk,h1,h2,h3,h4⟩:=ho
      exact⟨i',ents,clk,h1,h2,h3,h4.mono (GLe.refl _) hle⟩
  ·rcases getElem?_set_cases hj with ⟨e1,rfl⟩ | ⟨hj1,hj2⟩ <;> rcases getElem?_set_cases hk with ⟨e2,rfl⟩ | ⟨hk1,hk2⟩
   ·rw[e1,e2]
   ·rw[e1]
    exact rel.inj s k _ ok b hs hk2 (by simpa [own] using h1) h2
   ·rw[e2]
    exact rel.inj j s oj _ b hj2 hs h1 (by simpa [own] using h2)
   ·exact rel.inj j k oj ok b hj2 hk2 h1 h2
 ·intro k x hk hx
  obtain⟨hl,hc⟩:=hE k x hx
  refine⟨hl,z7j.2 fun j c hj=> ?_⟩
  obtain⟨v,hv,hr⟩:=hc j c hj
  refine⟨v, ?_,VR.mono (GLe.refl _) hle hr⟩
  show (if i.blk=i.blk∧k * i.esz + j < max fz n * i.esz then w.cell? ⟨i.blk,k * i.esz + j,none⟩ else I i.blk (k * i.esz + j))=some v
  have hjl:j < i.esz:=by
   rw[←hl]
   exact (List.getElem?_eq_some_iff.1 hj).1
  have:k * i.esz + j < max fz n * i.esz:=by
   have h1:(k + 1) * i.esz≤max fz n * i.esz:=Nat.mul_le_mul_right _ (Nat.le_trans hk (Nat.le_max_right _ _))
   rw[Nat.add_mul] at h1
   omega
  rw[if_pos ⟨rfl,this⟩]
  simp[World.cell?,hw,hv]
def NoNew (G:Ghost) (h:List AObj) (I I':Imm):Prop:=∀ b,(∀ (i:Nat) o,h[i]? =some o→own G o≠some b)→∀ o v,I' b o=some v→I b o=some v
theorem NoNew.refl:NoNew G h I I:=fun _ _ _ _ hv=>hv
theorem NoNew.ifr {I':Imm} (n:NoNew G h I I'):IFr G h w I I':=fun b _ hn=>n b hn
theorem j3f {s g off len:Nat} {xs:List AV} (hr:q0r h s g off len=some xs):∃ es grow fz,h[s]? =some (.blk g es true grow fz)∧off + len≤es.length∧xs=(es.drop off).take len:=by
 unfold q0r at hr
 split at hr
 ·rename_i es grow fz heq
  split at hr
  ·simp at hr
   exact⟨es,grow,fz,z9l heq, ‹_›,hr.symm⟩
  ·simp at hr
 ·simp at hr
mutual
theorem q8s:∀ {v v':AV} {cv:Value} {G:Ghost} {I:Imm} {h h1:List AObj} {w:World},conv h v=some v'→VR G I v cv→Frozen h h1→Rel G I h1 w→
  ∃ I',ILe I I'∧Rel G I' (freezeAll h1 v.obs) w∧VR G I' v' cv∧NoNew G h1 I I'
 | .agg cs,_,_,G,I,h,h1,w,hc,hv,hf,rel=>by
   simp only[conv,Option.map_eq_some_iff] at hc
   obtain⟨cs',hc,rfl⟩:=hc
   simp only[VR] at hv
   obtain⟨vs,rfl,hv⟩:=hv
   obtain⟨I',hle,r',hv',hn⟩:=q8b hc hv hf rel
   exact⟨I',hle,by simpa only[AV.obs] using r',by simp only[VR];exact⟨vs,rfl,hv'⟩,hn⟩
 | .tup cs,_,_,G,I,h,h1,w,hc,hv,hf,rel=>by
   simp only[conv,Option.map_eq_some_iff] at hc
   obtain⟨cs',hc,rfl⟩:=hc
   simp only[VR] at hv
   obtain⟨vs,rfl,hv⟩:=hv
   obtain⟨I',hle,r',hv',hn⟩:=q8b hc hv hf rel
   exact⟨I',hle,by simpa only[AV.obs] using r',by simp only[VR];exact⟨vs,rfl,hv'⟩,hn⟩
 | .sl xs t,_,_,G,I,h,h1,w,hc,hv,hf,rel=>by
   simp only[conv,Option.some.injEq] at hc
   subst hc
   simp only[VR] at hv
   obtain⟨A,n,c,rfl,h2,h3,_,h5⟩:=hv
   exact⟨I,ILe.refl _,by simpa only[AV.obs,freezeAll] using rel,by simp only[VR];exact⟨A,n,c,rfl,h2,h3,trivial,h5⟩,NoNew.refl⟩
 | .ob s g off len,_,_,G,I,h,h1,w,hc,hv,hf,rel=>by
   simp only[conv,Option.map_eq_some_iff] at hc
   obtain⟨xs,hc,rfl⟩:=hc
   obtain⟨es,grow,fz,hs,hle,rfl⟩:=j3f hc
   obtain⟨fz',hs'⟩:=hf.2 s _ hs
   obtain⟨I',i,hI,r',hi,hpos,hcells,hnn⟩:=j0g rel hs' hle
   simp only[VR] at hv
   obtain⟨i',A,c,hi',_,rfl,h3,h4,h5⟩:=hv
   obtain rfl:i=i':=by rw[hi] at hi';simpa using hi'
   refine⟨I',hI,by simpa only[AV.obs,z7c] using r', ?_,fun b hb o v hv=>hnn b (fun e=>hb s _ hs' (by simp[own,hi,e])) o v hv⟩
   simp only[VR]
   refine⟨A,len,c,rfl,by simp;omega,h3,trivial, ?_⟩
   rcases h5 with h5 | h5
   ·exact .inl (by omega)
   ·refine .inr ⟨i.blk,off * i.esz,i.esz,h5,hpos,z6j.2 fun k x hx=> ?_⟩
    have hk:k < len:=by
     have:=(List.getElem?_eq_some_iff.1 hx).1
     simp at this
     omega
    rw[List.getElem?_take_of_lt hk,List.getElem?_drop] at hx
    have:=hcells (off + k) x (by omega) hx
    rwa [Nat.add_mul] at this
 | .undef,_,_,G,I,h,h1,w,hc,hv,hf,rel=>by
   simp only[conv,Option.some.injEq] at hc;subst hc;exact⟨I,ILe.refl _,by simpa only[AV.obs,freezeAll] using rel,hv,NoNew.refl⟩
 | .int ..,_,_,G,I,h,h1,w,hc,hv,hf,rel=>by
   simp only[conv,Option.some.injEq] at hc;subst hc;exact⟨I,ILe.refl _,by simpa only[AV.obs,freezeAll] using rel,hv,NoNew.refl⟩
 | .bool _,_,_,G,I,h,h1,w,hc,hv,hf,rel=>by
   simp only[conv,Option.some.injEq] at hc;subst hc;exact⟨I,ILe.refl _,by simpa only[AV.obs,freezeAll] using rel,hv,NoNew.refl⟩
 | .str _,_,_,G,I,h,h1,w,hc,hv,hf,rel=>by
   simp only[conv,Option.some.injEq] at hc;subst hc;exact⟨I,ILe.refl _,by simpa only[AV.obs,freezeAll] using rel,hv,NoNew.refl⟩
 | .ptr ..,_,_,G,I,h,h1,w,hc,hv,hf,rel=>by
   simp only[conv,Option.some.injEq] at hc;subst hc;exact⟨I,ILe.refl _,by simpa only[AV.obs,freezeAll] using rel,hv,NoNew.refl⟩
 | .iptr ..,_,_,G,I,h,h1,w,hc,hv,hf,rel=>by
   simp only[conv,Option.some.injEq] at hc;subst hc;exact⟨I,ILe.refl _,by simpa only[AV.obs,freezeAll] using rel,hv,NoNew.refl⟩
 | .nilptr,_,_,G,I,h,h1,w,hc,hv,hf,rel=>by
   simp only[conv,Option.some.injEq] at hc;subst hc;exact⟨I,ILe.refl _,by simpa only[AV.obs,freezeAll] using rel,hv,NoNew.refl⟩
 | .mp ..,_,_,G,I,h,h1,w,hc,hv,hf,rel=>by
   simp only[conv,Option.some.injEq] at hc;subst hc;exact⟨I,ILe.refl _,by simpa only[AV.obs,freezeAll] using rel,hv,NoNew.refl⟩
 | .nilmap,_,_,G,I,h,h1,w,hc,hv,hf,rel=>by
   simp only[conv,Option.some.injEq] at hc;subst hc;exact⟨I,ILe.refl _,by simpa only[AV.obs,freezeAll] using rel,hv,NoNew.refl⟩
 | .fn ..,_,_,G,I,h,h1,w,hc,hv,hf,rel=>by
   simp only[conv,Option.some.injEq] at hc;subst hc;exact⟨I,ILe.refl _,by simpa only[AV.obs,freezeAll] using rel,hv,NoNew.refl⟩
 | .nilfn,_,_,G,I,h,h1,w,hc,hv,hf,rel=>by
   simp only[conv,Option.some.injEq] at hc;subst hc;exact⟨I,ILe.refl _,by simpa only[AV.obs,freezeAll] using rel,hv,NoNew.refl⟩
 | .nilif,_,_,G,I,h,h1,w,hc,hv,hf,rel=>by
   simp only[conv,Option.some.injEq] at hc;subst hc;exact⟨I,ILe.refl _,by simpa only[AV.obs,freezeAll] using rel,hv,NoNew.refl⟩
 | .bwd ..,_,_,G,I,h,h1,w,hc,hv,hf,rel=>by
   simp only[conv,Option.some.injEq] at hc;subst hc;exact⟨I,ILe.refl _,by simpa only[AV.obs,freezeAll] using rel,hv,NoNew.refl⟩
theorem q8b:∀ {vs vs':List AV} {cvs:List Value} {G:Ghost} {I:Imm} {h h1:List AObj} {w:World},z7h h vs=some vs'→VRL G I vs cvs→Frozen h h1→Rel G I h1 w→
  ∃ I',ILe I I'∧Rel G I' (freezeAll h1 (z3y vs)) w∧VRL G I' vs' cvs∧NoNew G h1 I I'
 | [],_,_,G,I,h,h1,w,hc,hv,hf,rel=>by
   simp only[z7h,Option.some.injEq] at hc
   subst hc
   exact⟨I,ILe.refl _,by simpa only[z3y,freezeAll] using rel,hv,NoNew.refl⟩
 | v::vs,_,_,G,I,h,h1,w,hc,hv,hf,rel=>by
   simp only[z7h] at hc
   split at hc
   ·rename_i a b ha hb
    simp at hc
    subst hc
    simp only[VRL] at hv
    obtain⟨cv,cvs,rfl,hv1,hv2⟩:=hv
    obtain⟨I1,hI1,r1,hx,hn1⟩:=q8s ha hv1 hf rel
    obtain⟨I2,hI2,r2,hxs,hn2⟩:=q8b hb (VRL.mono (GLe.refl _) hI1 hv2) (hf.trans (z2j _ _)) r1
    refine⟨I2,hI1.trans hI2, ?_, ?_,fun b hb o v hv=>hn1 b hb o v (hn2 b (fun i x hi hx=>by
     obtain⟨o',h2,h3⟩:=q6d (z2j _ _) hi hx
     exact hb i o' h2 h3) o v hv)⟩
    ·simp only[z3y,z4h]
     exact r2
    ·simp only[VRL]
     exact⟨cv,cvs,rfl,VR.mono (GLe.refl _) hI2 hx,hxs⟩
   ·simp at hc
end
end
end
section
variable {P:Program} {G:Ghost} {I:Imm} {h:List AObj} {w:World} {gen slot:Nat}
theorem x2j {x:AV} {cv:Value} (h1:x.one=true) (hv:VR G I x cv):cv.oneCell'=true:=by
 cases x <;> simp only[VR] at hv <;> first
  | (simp[AV.one] at h1;done)
  | (subst hv;rfl)
  | (obtain⟨rfl,_⟩:=hv;rfl)
  | (obtain⟨_,_,_,rfl,_⟩:=hv;rfl)
  | (obtain⟨_,_,_,_,_,rfl,_⟩:=hv;rfl)
  | (obtain⟨_,_,_,rfl⟩:=hv;rfl)
  | (obtain⟨_,_,rfl,_⟩:=hv;rfl)
  | (obtain⟨_,rfl,_⟩:=hv;rfl)
theorem Rel.setRow {s g fz':Nat} {es es':List AV} {row grow:Bool} {fz:Nat} {i:GInfo} {cs cs':Array Value} {t:TypeId} (rel:Rel G I h w) (hs:h[s]? =some (.blk g es row grow fz))
  (hi:G g=some i) (hw:w.heap[i.blk]? =some (.cells cs t (0,0))) (hsz:cs'.size=cs.size) (hlen:es'.length≤i.cap) (hgr:grow=false→es'.length=i.cap) (hfz:fz'≤es'.length∧(row=false→fz'=0))
  (hE:ElemsR G I es' cs' i.esz) (hI:∀ o v,I i.blk o=some v→o < fz' * i.esz∧cs'[o]? =cs[o]?):Rel G I (h.set s (.blk g es' row grow fz')) (w.setRow i.blk cs'):=by
 obtain⟨i',cs0,t0,hi',hsl,hw',hsz',hpos,_,_,_,_,_⟩:=rel.obj s _ hs
 obtain rfl:i=i':=by rw[hi] at hi';simpa using hi'
 have hcs:cs0=cs:=by rw[hw] at hw';simp at hw';exact hw'.1.symm
 subst hcs
 have hown:own G (.blk g es row grow fz)=some i.blk:=by simp[own,hi]
 refine⟨fun b o v hv=> ?_,fun j o hj=> ?_,fun j k oj ok b hj hk h1 h2=> ?_⟩
 ·have h0:=rel.imm b o v hv
  by_cases hb:b=i.blk
  ·subst hb
   rw[cell_setRow_same w _ o _ cs' t _ hw,(hI o v hv).2]
   simpa [World.cell?,hw] using h0
  ·rw[cell_setRow_other w _ cs' _ hb]
   exact h0
 ·rcases getElem?_set_cases hj with ⟨rfl,rfl⟩ | ⟨hne,hj⟩
  ·exact⟨i,cs',t,hi,hsl,setRow_heap w _ _ cs' t _ hw,by omega,hpos,hlen,hgr,hfz,hE,fun o v hv=>(hI o v hv).1⟩
  ·refine (rel.obj j o hj).world fun b hb=>setRow_other w _ _ _ fun e=> ?_
   subst e
   exact hne (rel.inj j s o _ _ hj hs hb hown)
 ·rcases getElem?_set_cases hj with ⟨e1,rfl⟩ | ⟨hj1,hj2⟩ <;> rcases getElem?_set_cases hk with ⟨e2,rfl⟩ | ⟨hk1,hk2⟩
  ·rw[e1,e2]
  ·rw[e1]
   exact rel.inj s k _ ok b hs hk2 (by simpa [own] using h1) h2
  ·rw[e2]
   exact rel.inj j s oj _ b hj2 hs h1 (by simpa [own] using h2)
  ·exact rel.inj j k oj ok b hj2 hk2 h1 h2
theorem Fr.setRow {s:Nat} {o:AObj} {b:Nat} {cs':Array Value} (hs:h[s]? =some o) (ho:own G o=some b):Fr G h w (w.setRow b cs'):=
 ⟨rfl,rfl,rfl,by simp[World.setRow],fun k _ hn=>setRow_other w _ _ _ fun e=>hn s o hs (by rw[e];exact ho)⟩
theorem OwnLe.same {h':List AObj} (hh:∀ (i:Nat) o,h'[i]? =some o→∃ (j:Nat) (o':AObj),h[j]? =some o'∧∀ b,own G o=some b→own G o'=some b):OwnLe G h w G h':=
 fun i o b hi hb=>by
  obtain⟨j,o',h1,h2⟩:=hh i o hi
  exact .inl ⟨j,o',h1,h2 b hb⟩
theorem x2k {cells vs cs:List AV} {o:Nat} (hsp:z8a cells o vs=some cs):o + vs.length≤cells.length∧cs.length=cells.length∧∀ j,cs[j]? =if o≤j∧j < o + vs.length then vs[j - o]? else cells[j]? :=by
 unfold z8a at hsp
 split at hsp
 ·rename_i hle
  simp at hsp
  subst hsp
  refine⟨hle,by simp;omega,fun j=> ?_⟩
  by_cases h1:j < o
  ·rw[if_neg (by omega),List.getElem?_append_left (by simp;omega),List.getElem?_take_of_lt h1]
  ·rw[List.getElem?_append_right (by simp;omega)]
   simp only[List.length_take,Nat.min_eq_left (show o≤cells.length by omega)]
   by_cases h2:j < o + vs.length
   ·rw[if_pos ⟨by omega,h2⟩,List.getElem?_append_left (by omega)]
   ·rw[if_neg (by omega),List.getElem?_append_right (by omega),List.getElem?_drop]
    congr 1
    omega
 ·simp at hsp
theorem z8p {cs:Array Value} {vs:List Value} {o:Nat} (hle:o + vs.length≤cs.size) (j:Nat):
  (cs.toList.take o++vs++cs.toList.drop (o + vs.length)).toArray[j]? =if o≤j∧j < o + vs.length then vs[j - o]? else cs[j]? :=by
 rw[List.getElem?_toArray,←Array.getElem?_toList]
 by_cases h1:j < o
 ·rw[if_neg (by omega),List.append_assoc,List.getElem?_append_left (by simp;omega),List.getElem?_take_of_lt h1]
 ·rw[List.append_assoc,List.getElem?_append_right (by simp;omega)]
  simp only[List.length_take,Array.length_toList,Nat.min_eq_left (show o≤cs.size by omega)]
  by_cases h2:j < o + vs.length
  ·rw[if_pos ⟨by omega,h2⟩,List.getElem?_append_left (by omega)]
  ·rw[if_neg (by omega),List.getElem?_append_right (by omega),List.getElem?_drop]
   congr 1
   omega
theorem x7i {e:AV} {cs:List AV} (hl:cs.length=e.cells.length) (hn:cs.all AV.one=true∨∃ es,e= .agg es):(z7q e cs).cells=cs:=by
 by_cases ha:∃ es,e= .agg es
 ·obtain⟨es,rfl⟩:=ha
  rfl
 ·have hne:∀ es,e≠ .agg es:=fun es h=>ha ⟨es,h⟩
  rw[z7r hne] at hl
  have h1:=hn.resolve_right ha
  match cs,hl,h1 with
  | [c],_,h1=>
    have:z7q e [c]=c:=by cases e <;> first | rfl | exact absurd rfl (hne _)
    rw[this]
    simp at h1
    exact z7r fun es h=>by subst h;simp[AV.one] at h1
theorem j9l {s g k o:Nat} {es:List AV} {row grow:Bool} {fz:Nat} {e v:AV} {cs2:List AV} {cv pa:Value} {t:TypeId} {sz:Nat} (rel:Rel G I h w) (hp:VR G I (.ptr s g k o) pa) (hs:sizeP P t=some sz)
  (hb:h[s]? =some (.blk g es row grow fz)) (he:es[k]? =some e) (hd:v.def? =true) (hl:v.cells.length=sz) (h0:0 < sz) (h1:v.cells.all AV.one=true) (hfz:row=true→fz≤k) (hsp:z8a e.cells o v.cells=some cs2) (hv:VR G I v cv):
  ∃ b cs',own G (.blk g es row grow fz)=some b∧(Instr.storeAt t pa cv).run P w= .ok () (w.setRow b cs')∧Rel G I (h.set s (.blk g (es.set k (z7q e cs2)) row grow fz)) (w.setRow b cs'):=by
 simp only[VR] at hp
 obtain⟨i,hi,_,rfl⟩:=hp
 obtain⟨i',cs,ty,hi',hsl,hw,hsz,hpos,hcap,hgr,hfz',hE,hI⟩:=rel.obj s _ hb
 obtain rfl:i=i':=by rw[hi] at hi';simpa using hi'
 obtain⟨hlen,hcell⟩:=q0b hd hv
 obtain⟨hel,hec⟩:=hE k e he
 obtain⟨hle,hl2,hget⟩:=x2k hsp
 have hk:k < es.length:=(List.getElem?_eq_some_iff.1 he).1
 have hkc:(k + 1) * i.esz≤i.cap * i.esz:=Nat.mul_le_mul_right _ (by omega)
 rw[Nat.add_mul] at hkc
 have hone:∀ u∈cv.cells.toList,u.oneCell'=true:=fun u hu=>by
  obtain⟨j,hj⟩:=List.getElem?_of_mem hu
  have hjl:j < v.cells.length:=by
   rw[hlen,←Array.length_toList]
   exact (List.getElem?_eq_some_iff.1 hj).1
  obtain⟨u',hu',hr⟩:=hcell j v.cells[j] (List.getElem?_eq_getElem hjl)
  rw[←Array.getElem?_toList,hj] at hu'
  simp at hu'
  subst hu'
  exact x2j (List.all_eq_true.1 h1 _ (List.getElem_mem hjl)) hr
 have hst:=run_storeCells_at P i.blk (k * i.esz + o) ty cv.cells.toList 0 cs w hw (by simp;omega) hone
 refine⟨i.blk,_,by simp[own,hi], ?_,rel.setRow hb hi hw (cs':=(cs.toList.take (k * i.esz + o)++cv.cells.toList++cs.toList.drop (k * i.esz + o + cv.cells.toList.length)).toArray) (by simp;omega) (by simpa using hcap) (by simpa using hgr) (by simpa using hfz') ?_ ?_⟩
 ·unfold sizeP at hs
  cases hit:P.info? t with
  | none=>simp[hit] at hs
  | some it=>
    simp[hit] at hs
    have hcs:cv.cells.size=it.size:=by omega
    simp only[Nat.add_zero] at hst
    simp[Instr.storeAt,Instr.sureAddr,storeVar,sizeOf,typeInfo,hit,hcs]
    simpa [hcs] using hst
 ·intro k' x hx
  rcases getElem?_set_cases hx with ⟨rfl,rfl⟩ | ⟨hne,hx⟩
  ·have hrc:(z7q e cs2).cells=cs2:=by
    refine x7i hl2 ?_
    by_cases ha:∃ es,e= .agg es
    ·exact .inr ha
    ·refine .inl (List.all_eq_true.2 fun c hc=> ?_)
     have hne:∀ es,e≠ .agg es:=fun es h=>ha ⟨es,h⟩
     rw[z7r hne] at hle hl2 hget
     simp at hle hl2
     obtain⟨j,hj⟩:=List.getElem?_of_mem hc
     have hj0:j < 1:=by
      rw[←hl2]
      exact (List.getElem?_eq_some_iff.1 hj).1
     obtain rfl:j=0:=by omega
     rw[hget 0,if_pos ⟨by omega,by omega⟩] at hj
     exact List.all_eq_true.1 h1 c (List.mem_of_getElem? hj)
   rw[hrc]
   refine⟨by omega,fun j c hj=> ?_⟩
   rw[hget j] at hj
   rw[z8p (by simp;omega)]
   simp only[Array.length_toList]
   split at hj
   ·rename_i hin
    obtain⟨u,hu,hr⟩:=hcell _ c hj
    exact⟨u,by rw[if_pos ⟨by omega,by omega⟩,show k' * i.esz + j - (k' * i.esz + o)=j - o by omega,Array.getElem?_toList];exact hu,hr⟩
   ·rename_i hout
    obtain⟨u,hu,hr⟩:=hec j c hj
    exact⟨u,by rw[if_neg (by omega)];exact hu,hr⟩
  ·obtain⟨h2,h3⟩:=hE k' x hx
   refine⟨h2,fun j c hj=> ?_⟩
   obtain⟨u,hu,hr⟩:=h3 j c hj
   refine⟨u, ?_,hr⟩
   have hjl:j < i.esz:=by
    rw[←h2]
    exact (List.getElem?_eq_some_iff.1 hj).1
   rw[z8p (by simp;omega)]
   simp only[Array.length_toList]
   rw[if_neg ?_]
   ·exact hu
   ·intro hc
    rcases Nat.lt_or_gt_of_ne hne with hlt | hgt
    ·have:(k' + 1) * i.esz≤k * i.esz:=Nat.mul_le_mul_right _ hlt
     rw[Nat.add_mul] at this
     omega
    ·have:(k + 1) * i.esz≤k' * i.esz:=Nat.mul_le_mul_right _ hgt
     rw[Nat.add_mul] at this
     omega
 ·intro o' u hu
  have hlt:=hI o' u hu
  refine⟨hlt, ?_⟩
  have hfk:fz≤k:=by
   cases row with
   | true=>exact hfz rfl
   | false=>have:=hfz'.2 rfl;omega
  have:fz * i.esz≤k * i.esz:=Nat.mul_le_mul_right _ hfk
  rw[z8p (by simp;omega),if_neg (by omega)]
end
section
variable {P:Program} {G:Ghost} {I:Imm} {h:List AObj} {w:World} {gen slot:Nat}
theorem x4n (vs:List Value):∀ (cs:Array Value) (off k:Nat),off + k + vs.length≤cs.size→
  ((vs.zipIdx k).foldl (fun cs (p:Value×Nat)=>cs.setIfInBounds (off + p.2) p.1) cs).size=cs.size∧
  ∀ j,((vs.zipIdx k).foldl (fun cs (p:Value×Nat)=>cs.setIfInBounds (off + p.2) p.1) cs)[j]? =if off + k≤j∧j < off + k + vs.length then vs[j - (off + k)]? else cs[j]? :=by
 induction vs with
 | nil=>intro cs off k _;exact⟨rfl,fun j=>by simp;intro h1 h2;omega⟩
 | cons v vs ih=>
   intro cs off k hle
   simp only[List.length_cons] at hle
   simp only[List.zipIdx_cons,List.foldl_cons]
   obtain⟨h1,h2⟩:=ih (cs.setIfInBounds (off + k) v) off (k + 1) (by simp;omega)
   refine⟨by simpa using h1,fun j=> ?_⟩
   rw[h2 j]
   by_cases hj:j=off + k
   ·subst hj
    rw[if_neg (by omega),if_pos ⟨by omega,by simp⟩]
    have:off + k < cs.size:=by omega
    simp[this]
   ·by_cases hin:off + (k + 1)≤j∧j < off + (k + 1) + vs.length
    ·rw[if_pos hin,if_pos ⟨by omega,by simp;omega⟩]
     rw[show j - (off + k)=(j - (off + (k + 1))) + 1 by omega]
     rfl
    ·rw[if_neg hin,if_neg (by simp;omega)]
     simp[Ne.symm hj]
theorem x7j {cs:Array Value} {v:Value} {off:Nat} (hle:off + v.cells.size≤cs.size):
  (v.cells.zipIdx.foldl (fun cs (c,j)=>cs.setIfInBounds (off + j) c) cs).size=cs.size∧
  ∀ j,(v.cells.zipIdx.foldl (fun cs (c,j)=>cs.setIfInBounds (off + j) c) cs)[j]? =if off≤j∧j < off + v.cells.size then v.cells[j - off]? else cs[j]? :=by
 have he:v.cells.zipIdx.foldl (fun cs (c,j)=>cs.setIfInBounds (off + j) c) cs=(v.cells.toList.zipIdx 0).foldl (fun cs (p:Value×Nat)=>cs.setIfInBounds (off + p.2) p.1) cs:=by
  rw[←Array.foldl_toList,Array.toList_zipIdx]
 rw[he]
 have:=x4n v.cells.toList cs off 0 (by simpa using hle)
 simp only[Nat.add_zero,Array.length_toList,Array.getElem?_toList] at this
 exact this
def ArrR (G:Ghost) (I:Imm) (cells:List AV) (cs:Array Value):Prop:=
 cells.length=cs.size∧∀ (j:Nat) c,cells[j]? =some c→∃ v,cs[j]? =some v∧VR G I c v
theorem ArrR.agg {cells:List AV} {cs:Array Value} (ha:ArrR G I cells cs):VR G I (.agg cells) (.agg cs):=by
 simp only[VR]
 refine⟨cs,rfl,z9v.2 ⟨by simpa using ha.1,fun j c u hj hu=> ?_⟩⟩
 obtain⟨v,hv,hr⟩:=ha.2 j c hj
 rw[Array.getElem?_toList,hv] at hu
 simp at hu
 subst hu
 exact hr
theorem ArrR.of_val {x:AV} {cv:Value} (hd:x.def? =true) (hv:VR G I x cv):ArrR G I x.cells cv.cells:=q0b hd hv
theorem j9m {place:Nat→Option (Nat×Nat)}:∀ (ps:List (Nat×Nat×AV)) (qs:List (Nat×Value)) (cells cs':List AV) (ccs:Array Value),ArrR G I cells ccs→
  ps.length=qs.length→(∀ (k:Nat) p q,ps[k]? =some p→qs[k]? =some q→place q.1=some (p.1,p.2.1)∧VR G I p.2.2 q.2)→z6e cells ps=some cs'→
  ∃ ccs',Instr.fill place ccs qs=some ccs'∧ArrR G I cs' ccs'
 | [],[],cells,cs',ccs,ha,_,_,hf=>by
   simp[z6e] at hf
   subst hf
   exact⟨ccs,rfl,ha⟩
 | [],_::_,_,_,_,_,hl,_,_=>by simp at hl
 | _::_,[],_,_,_,_,hl,_,_=>by simp at hl
 | (off,sz,v)::ps,(i,u)::qs,cells,cs',ccs,ha,hl,hp,hf=>by
   obtain⟨hpl,hv⟩:=hp 0 _ _ rfl rfl
   simp only at hpl hv
   simp only[z6e] at hf
   split at hf
   ·rename_i hc
    cases hsp:z8a cells off v.cells with
    | none=>simp[hsp] at hf
    | some c1=>
      simp only[hsp,Option.bind_some] at hf
      obtain⟨hvl,hvc⟩:=q0b hc.1 hv
      obtain⟨hle,hl2,hget⟩:=x2k hsp
      have hle':off + u.cells.size≤ccs.size:=by rw[←hvl,←ha.1];exact hle
      obtain⟨hs1,hs2⟩:=x7j (cs:=ccs) (v:=u) hle'
      have ha1:ArrR G I c1 (u.cells.zipIdx.foldl (fun cs (c,j)=>cs.setIfInBounds (off + j) c) ccs):=by
       refine⟨by rw[hl2,hs1,ha.1],fun j c hj=> ?_⟩
       rw[hget j] at hj
       rw[hs2 j]
       split at hj
       ·rename_i hin
        rw[if_pos ⟨hin.1,by omega⟩]
        exact hvc _ c hj
       ·rename_i hout
        rw[if_neg (by omega)]
        exact ha.2 j c hj
      obtain⟨ccs',hfill,har⟩:=j9m ps qs c1 cs' _ ha1 (by simpa using hl) (fun k p q h1 h2=>hp (k + 1) p q (by simpa using h1) (by simpa using h2)) hf
      refine⟨ccs', ?_,har⟩
      simp only[Instr.fill,hpl]
      rw[if_neg (by simp[show u.cells.size=sz by omega];omega)]
      exact hfill
   ·simp at hf
def w4d (G:Ghost) (I:Imm) (es:List AV) (cs:Array Value) (sz:Nat):Prop:=cs.size=es.length * sz∧ElemsR G I es cs sz
theorem z8u {a b c s:Nat} (h1:a < b) (h2:c < s):a * s + c < b * s:=by
 have:(a + 1) * s≤b * s:=Nat.mul_le_mul_right _ h1
 rw[Nat.add_mul] at this
 omega
theorem x2l {sz:Nat}:∀ (is:List Nat) (vs:List AV) (qs:List (Nat×Value)) (es es':List AV) (ccs:Array Value),w4d G I es ccs sz→
  is.length=qs.length→vs.length=qs.length→(∀ (k:Nat) i v q,is[k]? =some i→vs[k]? =some v→qs[k]? =some q→q.1=i∧VR G I v q.2)→z4j sz es is vs=some es'→
  ∃ ccs',Instr.fill (fun i=>some (i * sz,sz)) ccs qs=some ccs'∧w4d G I es' ccs' sz∧es'.length=es.length
 | [],[],[],es,es',ccs,ha,_,_,_,hf=>by
   simp[z4j] at hf
   subst hf
   exact⟨ccs,rfl,ha,rfl⟩
 | i::is,v::vs,(q,u)::qs,es,es',ccs,ha,hl1,hl2,hp,hf=>by
   obtain⟨rfl,hv⟩:=hp 0 _ _ _ rfl rfl rfl
   simp only at hv hf
   simp only[z4j] at hf
   split at hf
   ·rename_i hc
    obtain⟨hvl,hvc⟩:=q0b hc.2.1 hv
    have hb:q * sz + u.cells.size≤ccs.size:=by
     have:(q + 1) * sz≤es.length * sz:=Nat.mul_le_mul_right _ hc.1
     rw[Nat.add_mul] at this
     rw[ha.1]
     omega
    obtain⟨hs1,hs2⟩:=x7j (cs:=ccs) (v:=u) hb
    have ha1:w4d G I (es.set q v) (u.cells.zipIdx.foldl (fun cs (c,j)=>cs.setIfInBounds (q * sz + j) c) ccs) sz:=by
     refine⟨by rw[hs1,ha.1];simp,fun k x hx=> ?_⟩
     rcases getElem?_set_cases hx with ⟨rfl,rfl⟩ | ⟨hne,hx⟩
     ·refine⟨hc.2.2,fun j c hj=> ?_⟩
      have hjl:=(List.getElem?_eq_some_iff.1 hj).1
      rw[hs2,if_pos ⟨by omega,by omega⟩,show k * sz + j - k * sz=j by omega]
      exact hvc j c hj
     ·obtain⟨h1,h2⟩:=ha.2 k x hx
      refine⟨h1,fun j c hj=> ?_⟩
      have hjl:=(List.getElem?_eq_some_iff.1 hj).1
      rw[hs2,if_neg ?_]
      ·exact h2 j c hj
      ·intro hcc
       rcases Nat.lt_or_gt_of_ne hne with hlt | hgt
       ·have:=z8u hlt (show j < sz by omega)
        omega
       ·have:(q + 1) * sz≤k * sz:=Nat.mul_le_mul_right _ hgt
        rw[Nat.add_mul] at this
        omega
    obtain⟨ccs',hfill,har,hlen⟩:=x2l is vs qs (es.set q v) es' _ ha1 (by simpa using hl1) (by simpa using hl2) (fun k i v q h1 h2 h3=>hp (k + 1) i v q (by simpa using h1) (by simpa using h2) (by simpa using h3)) hf
    refine⟨ccs', ?_,har,by simpa using hlen⟩
    simp only[Instr.fill]
    rw[if_neg (by simp[show u.cells.size=sz by omega];omega)]
    exact hfill
   ·simp at hf
 | [],_::_,_,es,es',ccs,_,_,_,_,hf=>by simp[z4j] at hf
 | _::_,[],_,es,es',ccs,_,_,_,_,hf=>by simp[z4j] at hf
 | [],[],_::_,_,_,_,_,hl,_,_,_=>by simp at hl
 | _::_,_::_,[],_,_,_,_,hl,_,_,_=>by simp at hl
theorem q8t {z:AV} {zc:Array Value} {n:Nat} (hz:ArrR G I z.cells zc):w4d G I (List.replicate n z) ((Array.range (n * zc.size)).map fun i=>zc[i % zc.size]!) zc.size:=by
 refine⟨by simp,fun k x hx=> ?_⟩
 have hk:k < n:=by
  have:=(List.getElem?_eq_some_iff.1 hx).1
  simpa using this
 simp[hk] at hx
 subst hx
 refine⟨hz.1,fun j c hj=> ?_⟩
 obtain⟨v,hv,hr⟩:=hz.2 j c hj
 have hj':j < zc.size:=(Array.getElem?_eq_some_iff.1 hv).1
 refine⟨v, ?_,hr⟩
 have hlt:=z8u hk hj'
 have hm:(k * zc.size + j) % zc.size=j:=by
  rw[Nat.mul_comm,Nat.mul_add_mod]
  exact Nat.mod_eq_of_lt hj'
 rw[Array.getElem?_map,Array.getElem?_range,if_pos hlt]
 simp[hm,hv,getElem!_def]
end
end Go.Proofs.YtdfepmffiampgaaGreatDoor.Am
