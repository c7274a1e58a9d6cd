/- Walking: slices that are built and grown, and the program's data as values Walking: terms are joined Decimal digits: plain facts Walking: integers are written Terms that are well sorted: plain facts W -/
import Derived.Test.YtdfepmffiampgaaGreatDoorM26
open Nat renaming reduceBEq → z0,reduceAdd → z1,reduceLeDiff → z2,reduceSub → z3
set_option linter.all false
namespace Go.Proofs.YtdfepmffiampgaaGreatDoor.Am
open Go
set_option maxRecDepth 100000
section
variable {h:List AObj} {base g k:Nat} {ts:Tmps} {z:AV}
theorem k2c {n:Nat} {ps:List (Nat×AOpd)} (hz:z.def? =true) (hp:ps.map (·.1)=List.range n) (ho:z3y (ps.map fun p=>p.2.ev ts)=[])
  (hv:∀ v∈cvL (ps.map fun p=>p.2.ev ts),v.def? =true∧v.cells.length=z.cells.length):prim h base g ts (.buildSlice k false z n ps)=some (.sl (cvL (ps.map fun p=>p.2.ev ts)) .full,h):=by
 have key:∀ (vs es:List AV) (j:Nat),(∀ v∈vs,v.def? =true∧v.cells.length=z.cells.length)→es.length=j + vs.length→z4j z.cells.length es ((List.range vs.length).map (· + j)) vs=some (es.take j++vs):=by
  intro vs
  induction vs with
  | nil=>intro es j _ hl;simp[z4j];rw[List.take_of_length_le (by simp at hl;omega)]
  | cons v vs ih=>
    intro es j hv hl
    have hlt:j < es.length:=by simp at hl;omega
    have h1:=hv v List.mem_cons_self
    rw[List.length_cons,List.range_succ_eq_map]
    simp only[List.map_cons,List.map_map,Nat.zero_add,z4j,hlt,h1,and_self,if_true]
    have:=ih (es.set j v) (j + 1) (fun w hw=>hv w (List.mem_cons_of_mem _ hw)) (by simp at hl⊢;omega)
    rw[show (List.range vs.length).map ((fun x=>x + j)∘Nat.succ)=(List.range vs.length).map (· + (j + 1)) from List.map_congr_left fun a _=>by simp only[Function.comp];omega,this]
    congr 1
    rw[List.take_add_one,List.getElem?_set_self (by omega),List.take_set_of_le (Nat.le_refl _)]
    simp
 have hn:n=(cvL (ps.map fun p=>p.2.ev ts)).length:=by
  have h1:=congrArg List.length hp
  simp only[List.length_map,List.length_range] at h1
  have h2:∀ l:List AV,(cvL l).length=l.length:=fun l=>by induction l with
   | nil=>rfl
   | cons a l ih=>simp[cvL,ih]
  rw[h2,List.length_map,h1]
 have h3:=key _ (List.replicate n z) 0 hv (by rw[List.length_replicate];omega)
 rw[←hn] at h3
 simp only[Nat.add_zero,List.map_id',List.take_zero,List.nil_append] at h3
 simp only[prim,hz,Bool.not_true,Bool.false_eq_true,if_false,q5h ho,hp,h3,ho,freezeAll,Option.map_some]
def bsV (h:List AObj) (z:AV) (n:Nat) (js:List Nat) (vs:List AV):Option (AV×List AObj):=
 if !z.def? then none else match z7h h vs with
  | some ws=>(z4j z.cells.length (List.replicate n z) js ws).map fun es=>(.sl es .full,freezeAll h (z3y vs))
  | none=>none
theorem y8i {n:Nat} {ps:List (Nat×AOpd)}:prim h base g ts (.buildSlice k false z n ps)=bsV h z n (ps.map (·.1)) (ps.map fun p=>p.2.ev ts):=by
 simp only[prim,bsV,Bool.false_eq_true,if_false]
 rfl
section
variable {v v2 v3 v4:AV}
theorem y8j (hz:z.def? =true) (ho:v.obs=[]) (hd:v.cv.def? =true) (hl:v.cv.cells.length=z.cells.length):bsV h z 1 [0] [v]=some (.sl [v.cv] .full,h):=by
 have:=k2c (h:=h) (base:=0) (g:=0) (k:=0) (ts:=fun _=>v) (z:=z) (n:=1) (ps:=[(0, .const v)]) hz rfl (by simp[z3y,ho,AOpd.ev]) (by simp[cvL,hd,hl,AOpd.ev])
 rw[y8i] at this
 simpa [cvL,AOpd.ev] using this
theorem g2x (hz:z.def? =true) (ho:v.obs=[]) (hd:v.cv.def? =true) (hl:v.cv.cells.length=z.cells.length) (ho2:v2.obs=[]) (hd2:v2.cv.def? =true) (hl2:v2.cv.cells.length=z.cells.length):bsV h z 2 [0,1] [v,v2]=some (.sl [v.cv,v2.cv] .full,h):=by
 have:=k2c (h:=h) (base:=0) (g:=0) (k:=0) (ts:=fun _=>v) (z:=z) (n:=2) (ps:=[(0, .const v),(1, .const v2)]) hz rfl (by simp[z3y,ho,ho2,AOpd.ev]) (by simp[cvL,hd,hl,hd2,hl2,AOpd.ev])
 rw[y8i] at this
 simpa [cvL,AOpd.ev] using this
theorem u8b (hz:z.def? =true) (ho:v.obs=[]) (hd:v.cv.def? =true) (hl:v.cv.cells.length=z.cells.length) (ho2:v2.obs=[]) (hd2:v2.cv.def? =true) (hl2:v2.cv.cells.length=z.cells.length) (ho3:v3.obs=[]) (hd3:v3.cv.def? =true) (hl3:v3.cv.cells.length=z.cells.length):bsV h z 3 [0,1,2] [v,v2,v3]=some (.sl [v.cv,v2.cv,v3.cv] .full,h):=by
 have:=k2c (h:=h) (base:=0) (g:=0) (k:=0) (ts:=fun _=>v) (z:=z) (n:=3) (ps:=[(0, .const v),(1, .const v2),(2, .const v3)]) hz rfl (by simp[z3y,ho,ho2,ho3,AOpd.ev]) (by simp[cvL,hd,hl,hd2,hl2,hd3,hl3,AOpd.ev])
 rw[y8i] at this
 simpa [cvL,AOpd.ev] using this
end
section
variable {dst:Option Nat} {os:List AOper} {clk:Nat} {ks:List Kf} {Q:Post}
theorem g2y {n:Nat} {ps:List (Nat×AOpd)}:O Gam base .plain g (⟨dst, .buildSlice k false z n ps,none⟩::os) ⟨ts,h,clk⟩ ks Q=PP Gam base (bsV h z n (ps.map (·.1)) (ps.map fun p=>p.2.ev ts)) dst g os ts clk ks Q:=by rw[q4b rfl,y8i]
end
theorem w0a {cs:List AV}:(AV.agg cs).obs=z3y cs:=(rfl)
theorem y0y {cs:List AV} {t:Tip}:(AV.sl cs t).obs=[]:=(rfl)
theorem k2d {k:IntKind} {n:Int}:(AV.int k n).obs=[]:=(rfl)
theorem w0b {n:List Nat}:(AV.str n).obs=[]:=(rfl)
theorem k7u {n:Bool}:(AV.bool n).obs=[]:=(rfl)
theorem k7v:z3y []=[]:=(rfl)
theorem k2e {v:AV} {vs:List AV}:z3y (v::vs)=v.obs++z3y vs:=(rfl)
attribute [go_sem] g2y y8j g2x u8b z6e w0a y0y k2d w0b k7u k7v k2e
section
variable {dst:Option Nat} {os:List AOper} {clk:Nat} {ks:List Kf} {Q:Post}
def v3x (h:List AObj):AV→Option (AV×List AObj)
 | .str _=>none
 | x=>((z4e h x).bind z7i).map fun s=>(.str s,h)
theorem w0c {xs:List AV} {t:Tip}:v3x h (.sl xs t)=(z7i xs).map fun s=>(.str s,h):=(rfl)
def u8c (h:List AObj):AV→Option (AV×List AObj)
 | .str s=>some (.sl (s.map fun (b:Nat)=> .int .u8 (Int.ofNat b)) .no,h)
 | _=>none
theorem k7w {s:List Nat}:u8c h (.str s)=some (.sl (s.map fun (b:Nat)=> .int .u8 (Int.ofNat b)) .no,h):=(rfl)
def mmV (h:List AObj) (mx:Bool):AV→AV→Option (AV×List AObj)
 | .int k a, .int _ b=>some (.int k (if mx then (if b > a then b else a) else (if b < a then b else a)),h)
 | _,_=>none
theorem w0d {mx:Bool} {k j:IntKind} {a b:Int}:mmV h mx (.int k a) (.int j b)=some (.int k (if mx then (if b > a then b else a) else (if b < a then b else a)),h):=(rfl)
def lkV (h:List AObj) (t:ETy) (z:AV) (ok:Bool) (es:Option (List (AV×AV))) (ix:AV):Option (AV×List AObj):=
 match es with
 | some es=>if (ix.eqv t ix).isSome=true then (findKey t ix es).map fun r=>(q7w ok z r,h) else none
 | none=>none
def muV (h:List AObj) (t:ETy) (k v:AV):AV→Option (AV×List AObj)
 | .mp s g=>match z5s h s g,pub h v with
   | some es,some (v',h')=>if (k.eqv t k).isSome=true then (z6c t k v' es).map fun es'=>(.undef,h'.set s (.map g es')) else none
   | _,_=>none
 | _=>none
def msV (h:List AObj) (s g:Nat) (z:AV) (bytes:Nat):AV→AV→Option (AV×List AObj)
 | .int _ n, .int _ c=>
   if 0≤n∧n≤c∧c * (bytes + 1)≤z1c∧z.def? =true then some (.ob s g 0 n.toNat,h.set s (.blk g (List.replicate c.toNat z) true false 0)) else none
 | _,_=>none
def slV (h:List AObj) (esz:Option Nat) (x:AV) (lo hi mx:Option AV):Option (AV×List AObj):=(z3c h esz x lo hi mx).map (·,h)
theorem k2f {x:AOpd}:O Gam base .plain g (⟨dst, .ofBytes x,none⟩::os) ⟨ts,h,clk⟩ ks Q=PP Gam base (v3x h (x.ev ts)) dst g os ts clk ks Q:=by
 rw[q4b rfl];congr 1
theorem k2g {x:AOpd}:O Gam base .plain g (⟨dst, .toBytes x,none⟩::os) ⟨ts,h,clk⟩ ks Q=PP Gam base (u8c h (x.ev ts)) dst g os ts clk ks Q:=by
 rw[q4b rfl];congr 1
theorem k7x {x y:AOpd} {mx:Bool}:O Gam base .plain g (⟨dst, .minmax mx x y,none⟩::os) ⟨ts,h,clk⟩ ks Q=PP Gam base (mmV h mx (x.ev ts) (y.ev ts)) dst g os ts clk ks Q:=by
 rw[q4b rfl];congr 1
theorem k7y {t:ETy} {z:AV} {x ix:AOpd} {ok:Bool}:O Gam base .plain g (⟨dst, .lookup t z x ix ok,none⟩::os) ⟨ts,h,clk⟩ ks Q=PP Gam base (lkV h t z ok (x7g h (x.ev ts)) (ix.ev ts)) dst g os ts clk ks Q:=by
 rw[q4b rfl];rfl
theorem j1n {t:ETy} {m k v:AOpd}:O Gam base .plain g (⟨dst, .mapUpdate t m k v,none⟩::os) ⟨ts,h,clk⟩ ks Q=PP Gam base (muV h t (k.ev ts) (v.ev ts) (m.ev ts)) dst g os ts clk ks Q:=by
 rw[q4b rfl];congr 1
theorem j1o {k:Nat} {z:AV} {b:Nat} {n c:AOpd}:O Gam base .plain g (⟨dst, .makeSlice k z b n c,none⟩::os) ⟨ts,h,clk⟩ ks Q=PP Gam base (msV h (base + k) g z b (n.ev ts) (c.ev ts)) dst g os ts clk ks Q:=by
 rw[q4b rfl];congr 1
theorem w0e {esz:Option Nat} {x:AOpd} {lo hi mx:Option AOpd}:O Gam base .plain g (⟨dst, .slice esz x lo hi mx,none⟩::os) ⟨ts,h,clk⟩ ks Q=PP Gam base (slV h esz (x.ev ts) (lo.map (·.ev ts)) (hi.map (·.ev ts)) (mx.map (·.ev ts))) dst g os ts clk ks Q:=by
 rw[q4b rfl];rfl
end
attribute [go_sem] w0c k7w w0d k2f k2g k7x k7y j1n j1o w0e
section
variable {dst:Option Nat} {os os0:List AOper} {clk N:Nat} {ks:List Kf} {Q:Post} {ps:List (Nat×Nat)} {fs:List (List Nat×List Nat)}
theorem y0z {x:AOpd}:O Gam base (.draw N os0 ps fs) g (⟨dst,(.move x),none⟩::os) ⟨ts,h,clk⟩ ks Q=PO Gam base (some (x.ev ts,h)) (([],[])) (.draw N os0 ps fs) dst g os ts clk ks Q:=by rw[z6v rfl];congr 1
theorem y1a {c a b:AOpd}:O Gam base (.draw N os0 ps fs) g (⟨dst,(.pick c a b),none⟩::os) ⟨ts,h,clk⟩ ks Q=PO Gam base (k0v h (c.ev ts) (a.ev ts) (b.ev ts)) (([],[])) (.draw N os0 ps fs) dst g os ts clk ks Q:=by rw[z6v rfl];congr 1;exact v2f
theorem w0f {k:Nat} {z:AV}:O Gam base (.draw N os0 ps fs) g (⟨dst,(.alloc k z),none⟩::os) ⟨ts,h,clk⟩ ks Q=PO Gam base (v7n h (base + k) g z) (([],[base + k])) (.draw N os0 ps fs) dst g os ts clk ks Q:=by rw[z6v rfl];congr 1
theorem u2t {k:Nat} {x:AOpd}:O Gam base (.draw N os0 ps fs) g (⟨dst,(.box k x),none⟩::os) ⟨ts,h,clk⟩ ks Q=PO Gam base (v7n h (base + k) g (x.ev ts)) (([],[base + k])) (.draw N os0 ps fs) dst g os ts clk ks Q:=by rw[z6v rfl];congr 1
theorem w0g {z:List AV} {qs:List (Nat×Nat×AOpd)}:O Gam base (.draw N os0 ps fs) g (⟨dst,(.build z qs),none⟩::os) ⟨ts,h,clk⟩ ks Q=PO Gam base ((z6e z (qs.map fun p=>(p.1,p.2.1,p.2.2.ev ts))).map fun cs=>(.agg cs,h)) (([],[])) (.draw N os0 ps fs) dst g os ts clk ks Q:=by rw[z6v rfl];congr 1
theorem g2z {k n:Nat} {z:AV} {qs:List (Nat×AOpd)}:O Gam base (.draw N os0 ps fs) g (⟨dst,(.buildSlice k false z n qs),none⟩::os) ⟨ts,h,clk⟩ ks Q=PO Gam base (bsV h z n (qs.map (·.1)) (qs.map fun p=>p.2.ev ts)) (([],(z3y (qs.map fun p=>p.2.ev ts)).map (·.1))) (.draw N os0 ps fs) dst g os ts clk ks Q:=by rw[z6v rfl];congr 1
theorem y1b {sz:Option Nat} {a:AOpd}:O Gam base (.draw N os0 ps fs) g (⟨dst,(.load sz a),none⟩::os) ⟨ts,h,clk⟩ ks Q=PO Gam base (z8j h sz (a.ev ts)) (((a.ev ts).ids,[])) (.draw N os0 ps fs) dst g os ts clk ks Q:=by rw[z6v rfl];congr 1
theorem w0h {sz:Nat} {a x:AOpd}:O Gam base (.draw N os0 ps fs) g (⟨dst,(.store sz a x),none⟩::os) ⟨ts,h,clk⟩ ks Q=PO Gam base (z4y h sz (x.ev ts) (a.ev ts)) (([],(a.ev ts).ids++(x.ev ts).obs.map (·.1))) (.draw N os0 ps fs) dst g os ts clk ks Q:=by rw[z6v rfl];congr 1
theorem j8e {x:AOpd}:O Gam base (.draw N os0 ps fs) g (⟨dst,(.nilCheck x),none⟩::os) ⟨ts,h,clk⟩ ks Q=PO Gam base (k6q h (x.ev ts)) (([],[])) (.draw N os0 ps fs) dst g os ts clk ks Q:=by rw[z6v rfl];congr 1
theorem w0i {op:BinOp} {t:ETy} {x y:AOpd}:O Gam base (.draw N os0 ps fs) g (⟨dst,(.binOp op t x y),none⟩::os) ⟨ts,h,clk⟩ ks Q=PO Gam base (z6w h op t (x.ev ts) (y.ev ts)) (([],[])) (.draw N os0 ps fs) dst g os ts clk ks Q:=by rw[z6v rfl];congr 1
theorem j1p {x:AOpd} {o:Nat}:O Gam base (.draw N os0 ps fs) g (⟨dst,(.fieldAddr x o),none⟩::os) ⟨ts,h,clk⟩ ks Q=PO Gam base (k0w h o (x.ev ts)) (([],[])) (.draw N os0 ps fs) dst g os ts clk ks Q:=by rw[z6v rfl];congr 1
theorem k2h {x:AOpd} {i:Nat}:O Gam base (.draw N os0 ps fs) g (⟨dst,(.extract x i),none⟩::os) ⟨ts,h,clk⟩ ks Q=PO Gam base (y8d h i (x.ev ts)) (([],[])) (.draw N os0 ps fs) dst g os ts clk ks Q:=by rw[z6v rfl];congr 1
theorem j1q {esz:Nat} {x ix:AOpd}:O Gam base (.draw N os0 ps fs) g (⟨dst,(.indexAddr none esz x ix),none⟩::os) ⟨ts,h,clk⟩ ks Q=PO Gam base (z1n h esz (x.ev ts) (ix.ev ts)) (((x.ev ts).ids,[])) (.draw N os0 ps fs) dst g os ts clk ks Q:=by rw[z6v rfl];congr 1;exact q9w
theorem k7z {k esz b:Nat} {mu:Bool} {x y:AOpd}:O Gam base (.draw N os0 ps fs) g (⟨dst,(.append k esz b mu x y),none⟩::os) ⟨ts,h,clk⟩ ks Q=PO Gam base (z0n h (base + k) g esz b mu (x.ev ts) (y.ev ts)) (((y.ev ts).ids,(base + k)::(x.ev ts).ids)) (.draw N os0 ps fs) dst g os ts clk ks Q:=by rw[z6v rfl];congr 1
theorem w0j {esz:Option Nat} {x:AOpd} {lo hi mx:Option AOpd}:O Gam base (.draw N os0 ps fs) g (⟨dst,(.slice esz x lo hi mx),none⟩::os) ⟨ts,h,clk⟩ ks Q=PO Gam base (slV h esz (x.ev ts) (lo.map (·.ev ts)) (hi.map (·.ev ts)) (mx.map (·.ev ts))) (((x.ev ts).ids,[])) (.draw N os0 ps fs) dst g os ts clk ks Q:=by rw[z6v rfl];congr 1
theorem j8f {f:Nat} {cap:List AOpd}:O Gam base (.draw N os0 ps fs) g (⟨dst,(.makeFunc f cap),none⟩::os) ⟨ts,h,clk⟩ ks Q=PO Gam base (some (.fn f (cap.map (·.ev ts)),h)) (([],[])) (.draw N os0 ps fs) dst g os ts clk ks Q:=by rw[z6v rfl];congr 1
theorem y1c {op:UnOp} {x:AOpd}:O Gam base (.draw N os0 ps fs) g (⟨dst, .unOp op x,none⟩::os) ⟨ts,h,clk⟩ ks Q=PO Gam base (unV h op (x.ev ts)) ([],[]) (.draw N os0 ps fs) dst g os ts clk ks Q:=by rw[z6v rfl];congr 1
theorem g3a {v:AV} {f:List Nat×List Nat} {m:Md} {d:Nat}:PO Gam base (some (v,h)) f m (some d) g os ts clk ks Q=O Gam base (m.add f) (g + 1) os ⟨upd ts d v,h,clk⟩ ks Q:=(rfl)
theorem g3b {v:AV} {f:List Nat×List Nat} {m:Md}:PO Gam base (some (v,h)) f m none g os ts clk ks Q=O Gam base (m.add f) (g + 1) os ⟨ts,h,clk⟩ ks Q:=(rfl)
end
theorem w0k {a b c d:Nat}:(AV.ptr a b c d).ids=[a]:=(rfl)
theorem k8a {cs:List AV} {o:Nat}:(AV.iptr cs o).ids=idsL cs:=(rfl)
theorem k8b:idsL []=[]:=(rfl)
theorem k2i {v:AV} {vs:List AV}:idsL (v::vs)=v.ids++idsL vs:=(rfl)
theorem w0l {k:IntKind} {n:Int}:(AV.int k n).ids=[]:=(rfl)
theorem w0m {n:List Nat}:(AV.str n).ids=[]:=(rfl)
def u2u (h:List AObj) (sz:Option Nat):AV→Option AV
 | .ptr s g i o=>match z1s h s g with
   | some (es,_,_,_)=>(es[i]?).bind fun e=>z2f e.cells o sz
   | none=>none
 | _=>none
def v3y:Option AV→Option (List AV)→Option (List AV)
 | some v,some vs=>some (v::vs)
 | _,_=>none
theorem z0g {v:AV} {vs:List AV}:v3y (some v) (some vs)=some (v::vs):=(rfl)
theorem z0l {s i o:Nat} {sz:Option Nat}:u2u h sz (.ptr s g i o)=match z1s h s g with
 | some (es,_,_,_)=>(es[i]?).bind fun e=>z2f e.cells o sz
 | none=>none:=(rfl)
theorem z0m {t:Nat} {sz:Option Nat} {rs:List ARes}:z1z h ts (.cell t sz::rs)=v3y (u2u h sz (ts t)) (z1z h ts rs):=by
 simp only[z1z,u2u]
 cases ts t <;> try rfl
 rename_i s g i o
 simp only
 cases z1s h s g with
 | none=>rfl
 | some x=>
   obtain⟨es,a,b,c⟩:=x
   simp only
   cases (es[i]?).bind fun e=>z2f e.cells o sz with
   | none=>rfl
   | some v=>cases z1z h ts rs <;> rfl
attribute [go_sem] y1c y0z y1a w0f u2t w0g g2z y1b w0h j8e w0i j1p k2h j1q k7z w0j j8f g3a g3b j7i w0k k8a k8b k2i w0l w0m z0l z0g z0m Int.cast_ofNat_Int
def z7x (B k:Nat) (o:AObj) (t:Tip) (e:Nat):Prop:=t= .nil∨t= .full∨∃ g,t= .at (B + k) g∧o= .tip g e
theorem z0k {D L:List AObj} {B k esz b gen:Nat} {xs ys:List AV} {t u:Tip} {o:AObj} (hB:D.length=B) (ho:L[k]? =some o) (ht:z7x B k o t esz) (hx:z0o esz xs=true) (hy:z0o esz ys=true) (hl:(xs.length + ys.length) * (b + 1)≤2 ^ 46):
  z0n (D++L) (B + k) gen esz b false (.sl xs t) (.sl ys u)=some (.sl (xs++ys) (.at (B + k) gen),D++L.set k (.tip gen esz)):=by
 have hgt:¬ (xs.length + ys.length) * (b + 1) > z1c:=by unfold z1c;omega
 unfold z0n
 simp only[z4e,hy,Bool.not_true,Bool.false_eq_true,if_false,hx,Bool.or_false,decide_eq_true_eq,hgt]
 rcases ht with rfl | rfl | ⟨g,rfl,rfl⟩
 ·simp only[z1t hB]
 ·simp only[z1t hB]
 ·simp only[z2v hB,ho,and_self,if_true,z1t hB,List.set_set]
theorem z3x {α:Type} {f:α→AV} {n:Nat} {l:List α} (hf:∀ x,(f x).def? =true∧(f x).cells.length=n∧(f x).cells.all AV.one=true):z0o n (l.map f)=true:=by
 induction l with
 | nil=>rfl
 | cons a l ih=>simp[z0o,hf a,ih]
end
structure Node where
 op:Nat
 sort:Nat
 name:List Nat
 num:List Nat
 kids:Nat
 deriving DecidableEq,Inhabited
structure Var where
 name:List Nat
 sort:Nat
 deriving DecidableEq,Inhabited
abbrev Term:=List Node
structure App where
 pred:List Nat
 args:List Term
structure Clause where
 vars:List Var
 body:List App
 guard:Term
 head:App
structure Func where
 name:List Nat
 args:List Nat
 result:Nat
 deriving DecidableEq
structure Sys where
 preds:List Func
 clauses:List Clause
def nat (n:Nat):AV:= .int .i64 (n:Int)
def eNode (n:Node):AV:= .agg [nat n.op,nat n.sort, .str n.name, .str n.num,nat n.kids]
def z1h (v:Var):AV:= .agg [.str v.name,nat v.sort]
def z0i (t:Term):AV:= .sl (t.map eNode) .no
def z1p (a:App):AV:= .agg [.str a.pred, .sl (a.args.map z0i) .no]
def z0e (c:Clause):AV:= .agg [.sl (c.vars.map z1h) .no, .sl (c.body.map z1p) .no,z0i c.guard, .str c.head.pred, .sl (c.head.args.map z0i) .no]
def z1e (f:Func):AV:= .agg [.str f.name, .sl (f.args.map nat) .no,nat f.result]
def z1b (s:Sys):AV:= .agg [.sl (s.preds.map z1e) .no, .sl (s.clauses.map z0e) .no]
theorem z0b {α:Type} {f:α→AV} {l:List α} (hf:∀ x,(f x).ids=[]):idsL (l.map f)=[]:=by
 induction l with
 | nil=>rfl
 | cons a l ih=>simp[idsL,hf a,ih]
theorem z3q {n:Nat}:(nat n).ids=[]:=(rfl)
theorem k2j {α:Type} {f:α→AV} {l:List α} (hf:∀ x,(f x).ids=[]):(AV.sl (l.map f) .no).ids=[]:=by simp[AV.ids,z0b hf]
theorem z0x (n:Node):(eNode n).ids=[]:=(rfl)
theorem z1k (v:Var):(z1h v).ids=[]:=(rfl)
theorem z1f (t:Term):(z0i t).ids=[]:=k2j z0x
theorem z4f (a:App):(z1p a).ids=[]:=by simp[z1p,AV.ids,idsL,z0b z1f]
theorem z1j (c:Clause):(z0e c).ids=[]:=by simp[z0e,AV.ids,idsL,z0b z1k,z0b z4f,z0b z1f,z1f]
theorem z2a (f:Func):(z1e f).ids=[]:=by simp[z1e,AV.ids,idsL,z0b (f:=nat) (fun _=>z3q),z3q]
theorem z2k (s:Sys):(z1b s).ids=[]:=by simp[z1b,AV.ids,idsL,z0b z2a,z0b z1j]
theorem k8c (t:Term):(z0i t).obs=[]:=(rfl)
theorem w0n (a:App):(z1p a).obs=[]:=(rfl)
theorem j8g (c:Clause):(z0e c).obs=[]:=(rfl)
theorem k2k (n:Node):(eNode n).cv=eNode n:=(rfl)
theorem w0o (t:Term):(z0i t).cv=z0i t:=(rfl)
theorem v3z (s:Sys):(z1b s).cv=z1b s:=(rfl)
theorem z2x {l:Term}:z0o 5 (l.map eNode)=true:=z3x fun _=>⟨rfl,rfl,rfl⟩
theorem z3d {l:List Var}:z0o 2 (l.map z1h)=true:=z3x fun _=>⟨rfl,rfl,rfl⟩
theorem z4c {l:List Term}:z0o 1 (l.map z0i)=true:=z3x fun _=>⟨rfl,rfl,rfl⟩
theorem z3n {l:List App}:z0o 2 (l.map z1p)=true:=z3x fun _=>⟨rfl,rfl,rfl⟩
theorem z2o {l:List Clause}:z0o 5 (l.map z0e)=true:=z3x fun _=>⟨rfl,rfl,rfl⟩
theorem z4q {l:List Func}:z0o 3 (l.map z1e)=true:=z3x fun _=>⟨rfl,rfl,rfl⟩
theorem z4i {l:List Nat}:z0o 1 (l.map nat)=true:=z3x fun _=>⟨rfl,rfl,rfl⟩
theorem k8d {t:Term}:(z0i t).def? =true:=(rfl)
theorem k2l {t:Term}:(z0i t).cells=[z0i t]:=(rfl)
attribute [go_sem] k8c w0n j8g k2k w0o v3z z2x z3d z4c z3n z2o z4q z4i k8d k2l
theorem z2q {T:List Nat} {v:AV} {R:AV→List AObj→Prop} {h:List AObj} (ho:v.obs=[]) (hi:v.cv.ids=[]):RV T (some [v]) R h=R v.cv h:=z0j (vs:=[v]) ho hi
theorem z1g {T:List Nat} {l:Term} {R:AV→List AObj→Prop} {h:List AObj}:RV T (some [z0i l]) R h=R (z0i l) h:=z2q rfl (z1f l)
theorem k2m {T:List Nat} {l:Term} {t:Tip} {R:AV→List AObj→Prop} {h:List AObj}:RV T (some [.sl (l.map eNode) t]) R h=R (z0i l) h:=z2q rfl (z1f l)
theorem z3j {α:Type} {f:α→AV} {l:List α} {i esz:Nat} {h:List AObj} {t:Tip} {k:IntKind} {cs:List AV} (hi:i < l.length) (hc:(f l[i]).cells=cs) (hl:cs.length=esz):z1n h esz (.sl (l.map f) t) (.int k (i:Int))=some (.iptr cs 0,h):=by
 rw[z5p (e:=f l[i]) (by simp[hi]) (by rw[hc];exact hl),hc]
theorem u2v {α β:Type} {f:α→β}:([]:List β)=([]:List α).map f:=rfl
theorem x5b {b:Bool}:Pure Gam 22 [.bool b] (z0i [⟨if b then 1 else 2,0,[],[],0⟩]):=by
 refine Pure.of rfl u2i rfl rfl rfl rfl rfl fun D B clk T hB hT=> ?_
 simp only[go_sem,y0m]
 refine z8i (fun hb=> ?_) (fun hb=> ?_)
 all_goals
  simp only[go_sem,]
  rw[z0j rfl rfl]
  simp only[hb,if_true,if_false,Bool.false_eq_true] at hT
  exact hT _
theorem x5c {s:Nat} {a:List Nat}:Pure Gam 157 [nat s, .str a] (z0i [⟨3,s,[],a,0⟩]):=by
 refine Pure.of rfl u2l rfl rfl rfl rfl rfl fun D B clk T hB hT=> ?_
 simp only[go_sem,y0p,nat]
 rw[z0j rfl rfl]
 exact hT _
theorem q1e {l:List Term} {i:Nat} {h:List AObj} {t:Tip} {k:IntKind} (hi:i < l.length):z1n h 1 (.sl (l.map z0i) t) (.int k (i:Int))=some (.iptr [z0i l[i]] 0,h):=z3j hi rfl rfl
theorem j1r {n:Node} {l:List Term} {u:Tip} (hl:l.length≤2 ^ 20) (hf:l.flatten.length≤2 ^ 30):Pure Gam 80 [eNode n, .sl (l.map z0i) u] (z0i ({n with kids:=l.length}::l.flatten)):=by
 refine Pure.of rfl u2m rfl rfl rfl (az:=[eNode n, .sl (l.map z0i) .no]) rfl (by simp[idsL,z0x,AV.ids,z0b z1f]) fun D B clk T hB hT=> ?_
 simp only[go_sem,y0r,eNode,hB,nat,List.length_map]
 refine z1q (fun m s=>∃ (i:Nat) (acc:Term) (t:Tip) (a b o:AObj),i≤l.length∧m=l.length - i∧acc={n with kids:=l.length}::(l.take i).flatten∧s.ts 1= .sl (l.map z0i) .no∧s.ts 5= .sl (acc.map eNode) t∧s.ts 6= .int .i64 i∧s.h=D++[a,b,o]∧z7x B 2 o t 5) l.length ?_ ?_
 ·exact⟨0,_, .full,_,_,_,by simp,rfl,rfl,rfl,rfl,rfl,rfl, .inr (.inl rfl)⟩
 rintro m ⟨ts,h,clk⟩ P ⟨i,acc,t,a,b,o,hi,rfl,hacc,h1,h5,h6,rfl,ht⟩ hn he hr
 dsimp only at h1 h5 h6
 simp only[go_sem,h1,h5,h6,List.length_map,k2a]
 refine z8i (fun hb=> ?_) (fun hb=> ?_)
 ·have hlt:i < l.length:=by simp at hb;omega
  have hlen:(l.take i).flatten.length + (l[i]).length≤l.flatten.length:=by
   have:=congrArg (fun x=>(List.flatten x).length) (List.take_append_drop i l)
   simp only[List.flatten_append,List.length_append] at this
   rw[List.drop_eq_getElem_cons hlt] at this
   simp only[List.flatten_cons,List.length_append] at this
   omega
  have ha:acc.length=(l.take i).flatten.length + 1:=by rw[hacc];rfl
  simp only[go_sem,h1,h5,h6,q1e hlt]
  rw[z0i,z0k hB rfl ht z2x z2x (by simp only[List.length_map];omega)]
  simp only[go_sem,h1,h5,h6,←List.map_append,z0f (n:=(i:Int) + 1) (by omega) (by omega)]
  refine hn (l.length - (i + 1)) _ (by omega) ⟨i + 1,acc++l[i],_,_,_,_,hlt,rfl, ?_,h1, ?_,rfl,rfl, .inr (.inr ⟨_,rfl,rfl⟩)⟩
  ·rw[hacc,List.take_succ_eq_append_getElem hlt]
   simp only[List.flatten_append,List.flatten_cons,List.flatten_nil,List.append_nil,List.cons_append]
  ·simp only[z0c,z0,cond_true,cond_false]
 ·have hge:i=l.length:=by simp at hb;omega
  subst hge
  simp only[go_sem,h5]
  refine he _ _ ?_
  simp only[go_sem,h5]
  rw[k2m]
  rw[List.take_length] at hacc
  rw[hacc]
  exact hT _
def dec (n:Nat):List Nat:=if n < 10 then [48 + n] else dec (n / 10)++[48 + n % 10]
termination_by n
def z3k (z:Int):List Nat:=if z < 0 then 45::dec z.natAbs else dec z.natAbs
theorem z9r {n:Nat} (h:n < 10):dec n=[48 + n]:=by rw[dec,if_pos h]
theorem k2n {n:Nat} (h:10≤n):dec n=dec (n / 10)++[48 + n % 10]:=by rw[dec,if_neg (by omega)]
theorem z8y (n:Nat):dec n≠[]:=by
 rw[dec]
 split
 ·simp
 ·simp
theorem z1u (n:Nat):∀ c∈dec n,48≤c∧c≤57:=by
 induction n using Nat.strongRecOn with
 | ind n ih=>
   rw[dec]
   split
   ·intro c hc;simp at hc;omega
   ·intro c hc
    rw[List.mem_append] at hc
    rcases hc with hc | hc
    ·exact ih (n / 10) (by omega) c hc
    ·simp at hc;omega
def z1v (s:List Nat):Nat:=s.foldl (fun a c=>10 * a + (c - 48)) 0
theorem q0h {s:List Nat} {c:Nat}:z1v (s++[c])=10 * z1v s + (c - 48):=by simp[z1v]
theorem z2l (n:Nat):z1v (dec n)=n:=by
 induction n using Nat.strongRecOn with
 | ind n ih=>
   rw[dec]
   split
   ·simp[z1v]
   ·rw[q0h,ih (n / 10) (by omega)];omega
theorem j1s {a b:Nat} (h:dec a=dec b):a=b:=by rw[←z2l a,←z2l b,h]
theorem j4m {n:Nat} (h:0 < n):∃ c s,dec n=c::s∧49≤c∧c≤57:=by
 induction n using Nat.strongRecOn with
 | ind n ih=>
   rw[dec]
   split
   ·exact⟨48 + n,[],rfl,by omega,by omega⟩
   ·obtain⟨c,s,h1,h2⟩:=ih (n / 10) (by omega) (by omega)
    exact⟨c,s++[48 + n % 10],by rw[h1];rfl,h2⟩
theorem z8z {n k:Nat} (hk:0 < k) (h:n < 10 ^ k):(dec n).length≤k:=by
 induction k generalizing n with
 | zero=>omega
 | succ k ih=>
   rw[dec]
   split
   ·simp
   ·rw[List.length_append,List.length_singleton]
    have h1:n / 10 < 10 ^ k:=by rw[Nat.pow_succ] at h;omega
    have hk0:0 < k:=by
     rcases Nat.eq_zero_or_pos k with rfl | h0
     ·simp at h1;omega
     ·exact h0
    have:=ih hk0 h1
    omega
theorem q5k:dec 0=[48]:=z9r (by omega)
theorem q4c {n:Nat}:dec n=[48]↔n=0:=⟨fun h=>j1s (h.trans q5k.symm),fun h=>h ▸ q5k⟩
theorem x3g {n:Nat}:dec n=[49]↔n=1:=⟨fun h=>j1s (h.trans (z9r (by omega):dec 1=_).symm),fun h=>h ▸ z9r (by omega)⟩
def y1d (s:List Nat):Prop:=s≠[]∧(∀ c∈s,48≤c∧c≤57)∧(s.length > 1→s.head? ≠some 48)
theorem z5i {c:Nat} {s:List Nat}:z1v (c::s)=(c - 48) * 10 ^ s.length + z1v s:=by
 have key:∀ (s:List Nat) (a:Nat),s.foldl (fun a c=>10 * a + (c - 48)) a=a * 10 ^ s.length + s.foldl (fun a c=>10 * a + (c - 48)) 0:=by
  intro s
  induction s with
  | nil=>intro a;simp
  | cons d s ih=>
    intro a
    simp only[List.foldl_cons,List.length_cons]
    rw[ih,ih (10 * 0 + (d - 48)),Nat.pow_succ,Nat.add_mul]
    simp only[Nat.mul_zero,Nat.zero_add]
    rw[show 10 * a * 10 ^ s.length=a * (10 ^ s.length * 10) by rw[Nat.mul_comm 10 a,Nat.mul_assoc,Nat.mul_comm 10]]
    omega
 simp only[z1v,List.foldl_cons]
 rw[key]
 simp
theorem k2o {s:List Nat} (h:y1d s):dec (z1v s)=s:=by
 obtain⟨h1,h2,h3⟩:=h
 induction hl:s.length generalizing s with
 | zero=>exact absurd (List.length_eq_zero_iff.1 hl) h1
 | succ n ih=>
   obtain⟨t,c,rfl⟩:∃ t c,s=t++[c]:=⟨s.dropLast,s.getLast h1,(List.dropLast_concat_getLast h1).symm⟩
   have hc:=h2 c (by simp)
   rw[q0h]
   by_cases ht:t=[]
   ·subst ht
    simp[z1v]
    rw[z9r (by omega)]
    congr 1
    omega
   ·have hcan:dec (z1v t)=t:=ih ht (fun d hd=>h2 d (List.mem_append_left _ hd)) (fun hlt=>by
     have:=h3 (by simp at hlt⊢;omega)
     obtain⟨d,t',rfl⟩:=List.exists_cons_of_ne_nil ht
     simpa using this) (by simpa using hl)
    have hpos:0 < z1v t:=by
     rcases Nat.eq_zero_or_pos (z1v t) with h0 | h0
     ·rw[h0,q5k] at hcan
      have:=h3 (by rw[←hcan];simp)
      rw[←hcan] at this
      simp at this
     ·exact h0
    rw[k2n (by omega),show (10 * z1v t + (c - 48)) / 10=z1v t by omega,hcan]
    congr 2
    omega
theorem q1r {n:Int} (hn: -2 ^ 62≤n) (hn2:n≤2 ^ 62):Pure Gam 50 [.int .i64 n] (.str (z3k n)):=by
 refine Pure.of rfl g2u rfl rfl rfl rfl rfl fun D B clk T hB hT=> ?_
 simp only[go_sem,u7s]
 refine z1q (fun m s=>∃ (v:Int) (t:List Nat) (a:AObj),m=v.natAbs + (if t=[] then 1 else 0)∧ -2 ^ 62≤v∧v≤2 ^ 62∧t.length≤100∧s.ts 0= .int .i64 n∧s.ts 4= .int .i64 v∧s.ts 3= .str t∧s.h=D++[a]∧
  (if t=[] then v=n else if v=0 then t=dec n.natAbs else dec n.natAbs=dec v.natAbs++t)) (n.natAbs + 1) ?_ ?_
 ·exact⟨n,[],_,by simp,hn,hn2,by simp,rfl,rfl,rfl,rfl,rfl⟩
 rintro m ⟨ts,h,clk⟩ P ⟨v,t,a,rfl,hv1,hv2,hl,h0,h4,h3,rfl,hd⟩ hn he hr
 dsimp only at h0 h4 h3
 have hlen:t.length≤20∨t.length≤20:=by
  by_cases ht:t=[]
  ·left;subst ht;simp
  ·rw[if_neg ht] at hd
   have h20:(dec n.natAbs).length≤20:=z8z (by omega) (by omega)
   by_cases hv:v=0
   ·rw[if_pos hv] at hd;left;rw[hd];exact h20
   ·rw[if_neg hv] at hd
    have:=congrArg List.length hd
    simp only[List.length_append] at this
    left;omega
 have hl20:t.length≤20:=hlen.elim id id
 by_cases hc:v=0∧t≠[]
 ·obtain⟨rfl,ht⟩:=hc
  have e1:decide (t=[])=false:=by simp[ht]
  simp only[go_sem,h0,h4,h3,j8b,decide_true,e1]
  refine he _ _ ?_
  rw[if_neg ht,if_pos rfl] at hd
  have ht2:t.length < 2 ^ 59:=by omega
  simp only[go_sem,h0,h3]
  refine z8i (fun hb=> ?_) (fun hb=> ?_)
  ·have hneg:n < 0:=by simpa using hb
   simp only[go_sem,h0,h3,q7n (a:=[45]) (b:=t) (by simp;omega)]
   rw[z2q rfl rfl]
   have:=hT (D++[a])
   rw[z3k,if_pos hneg,←hd] at this
   exact this
  ·have hneg:¬ n < 0:=by simpa using hb
   simp only[go_sem,h0,h3]
   rw[z2q rfl rfl]
   have:=hT (D++[a])
   rw[z3k,if_neg hneg,←hd] at this
   exact this
 ·
  have hq:IntKind.i64.wrap (v.tdiv 10)=v.tdiv 10:=IntWalk.i64_quo' _ _ (by omega)
  have hr1:(v.tmod 10).natAbs=v.natAbs % 10:=Int.natAbs_tmod v 10
  have hr2:(v.tdiv 10).natAbs=v.natAbs / 10:=Int.natAbs_tdiv v 10
  have fin:∀ (ts':Tmps) (clk':Nat),ts' 0= .int .i64 n→ts' 4= .int .i64 (v.tdiv 10)→ts' 3= .str ((48 + v.natAbs % 10)::t)→P .norm ⟨ts',D++[a],clk'⟩:=by
   intro ts' clk' g0 g4 g3
   refine hn (((v.tdiv 10).natAbs) + 0) _ ?_ ⟨v.tdiv 10,(48 + v.natAbs % 10)::t,_,by simp,by omega,by omega,by simp;omega,g0,g4,g3,rfl, ?_⟩
   ·by_cases ht:t=[]
    ·rw[if_pos ht];omega
    ·have:v≠0:=fun h=>hc ⟨h,ht⟩
     rw[if_neg ht];omega
   ·rw[if_neg (by simp)]
    by_cases ht:t=[]
    ·subst ht
     rw[if_pos rfl] at hd
     subst hd
     by_cases h10:v.natAbs < 10
     ·rw[if_pos (by omega),z9r h10,Nat.mod_eq_of_lt h10]
     ·rw[if_neg (by omega),k2n (by omega),hr2]
    ·have hv0:v≠0:=fun h=>hc ⟨h,ht⟩
     rw[if_neg ht,if_neg hv0] at hd
     by_cases h10:v.natAbs < 10
     ·rw[if_pos (by omega),hd,z9r h10,Nat.mod_eq_of_lt h10];rfl
     ·rw[if_neg (by omega),hd,k2n (n:=v.natAbs) (by omega),hr2];simp
  have e2:(48 + (v.natAbs:Int) % 10).toNat=48 + v.natAbs % 10:=by omega
  have e3:(0≤48 + (v.natAbs:Int) % 10∧48 + (v.natAbs:Int) % 10 < 256)=True:=by simp;omega
  have e4:IntKind.u8.wrap (IntKind.i64.wrap (48 + (v.natAbs:Int) % 10))=48 + (v.natAbs:Int) % 10:=by rw[z0f (by omega) (by omega),IntWalk.u8_in _ (by omega)]
  have e5:decide ((v.natAbs:Int) % 10 < 0)=false:=by simp;omega
  have hs:=q7n (h:=D++[a]) (t:= .one .str) (a:=[48 + v.natAbs % 10]) (b:=t) (by simp;omega)
  by_cases hv:v=0
  ·have ht:t=[]:=Classical.byContradiction fun h=>hc ⟨hv,h⟩
   have e6:v.tmod 10=(v.natAbs:Int) % 10:=by subst hv;rfl
   have e7:decide (v=0)=true:=by simp[hv]
   have e8:decide (t=[])=true:=by simp[ht]
   simp only[go_sem,h0,h4,h3,j8b,q7m (b:=10) (by decide),e2,e3,e4,e5,e6,e7,e8,hs,z7i,x3d (b:=10) (by decide),hq]
   exact fin _ _ (by simp[z0c,h0]) (by simp[z0c]) (by simp[z0c])
  ·have e7:decide (v=0)=false:=by simp[hv]
   by_cases hneg:v.tmod 10 < 0
   ·have e6:IntKind.i64.wrap (0 - v.tmod 10)=(v.natAbs:Int) % 10:=by rw[z0f (by omega) (by omega)];omega
    have e8:decide (v.tmod 10 < 0)=true:=by simp[hneg]
    simp only[go_sem,h0,h4,h3,j8b,q7m (b:=10) (by decide),e2,e3,e4,e5,e6,e7,e8,hs,z7i,x3d (b:=10) (by decide),hq]
    exact fin _ _ (by simp[z0c,h0]) (by simp[z0c]) (by simp[z0c])
   ·have e6:v.tmod 10=(v.natAbs:Int) % 10:=by omega
    simp only[go_sem,h0,h4,h3,j8b,q7m (b:=10) (by decide),e2,e3,e4,e5,e6,e7,hs,z7i,x3d (b:=10) (by decide),hq]
    exact fin _ _ (by simp[z0c,h0]) (by simp[z0c]) (by simp[z0c])
def IntS (a:List Nat):Prop:=∃ z:Int,a=z3k z∧z.natAbs < 10 ^ 40
def RatS (a:List Nat):Prop:=IntS a∨∃ (z:Int) (d:Nat),a=z3k z++47::dec d∧z.natAbs < 10 ^ 40∧2≤d∧d≤4∧Nat.gcd z.natAbs d=1
def bare (o k:Nat):Node:=⟨o,0,[],[],k⟩
inductive NodeOk (V:List Var):Node→List Nat→Nat→Term→Prop
 | bool {o:Nat} {ks:Term} (h:o=1∨o=2):NodeOk V (bare o 0) [] 1 ks
 | int {a:List Nat} {ks:Term} (h:IntS a):NodeOk V ⟨3,2,[],a,0⟩ [] 2 ks
 | real {a:List Nat} {ks:Term} (h:RatS a):NodeOk V ⟨3,3,[],a,0⟩ [] 3 ks
 | var {v:Var} {ks:Term} (h:v∈V):NodeOk V ⟨4,v.sort,v.name,[],0⟩ [] v.sort ks
 | not {ks:Term}:NodeOk V (bare 6 1) [1] 1 ks
 | andor {o k:Nat} {ks:Term} (h:o=7∨o=8):NodeOk V (bare o k) (List.replicate k 1) 1 ks
 | imp {ks:Term}:NodeOk V (bare 9 2) [1,1] 1 ks
 | ite {s:Nat} {ks:Term} (h1:1≤s) (h2:s≤4):NodeOk V (bare 10 3) [1,s,s] s ks
 | eq {s:Nat} {ks:Term} (h1:1≤s) (h2:s≤4):NodeOk V (bare 11 2) [s,s] 1 ks
 | cmp {o s:Nat} {ks:Term} (h:o=12∨o=13) (hs:s=2∨s=3):NodeOk V (bare o 2) [s,s] 1 ks
 | add {k s:Nat} {ks:Term} (h:1≤k) (hs:s=2∨s=3):NodeOk V (bare 14 k) (List.replicate k s) s ks
 | mul {s:Nat} {n:Node} {ks:Term} (hs:s=2∨s=3) (hn:n.op=3):NodeOk V (bare 15 2) [s,s] s (n::ks)
 | div {o k:Nat} {ks:Term} (h:o=16∨o=17) (h1:1≤k) (h2:k≤5):NodeOk V ⟨o,0,[],dec k,1⟩ [2] 2 ks
 | select {ks:Term}:NodeOk V (bare 18 2) [4,2] 2 ks
 | store {ks:Term}:NodeOk V (bare 19 3) [4,2,2] 4 ks
 | const {ks:Term}:NodeOk V (bare 20 1) [2] 4 ks
inductive WF (V:List Var):List Nat→Nat→Term→Prop
 | nil {d:Nat}:WF V [] d []
 | cons {n:Node} {ss:List Nat} {ks:Term} {s d:Nat} {ss':List Nat} {rest:Term}:WF V ss d ks→NodeOk V n ss s ks→n.kids=ss.length→WF V ss' (d + 1) rest→WF V (s::ss') (d + 1) (n::(ks++rest))
theorem WF.up {V:List Var} {ss:List Nat} {d d':Nat} {t:Term} (h:WF V ss d t) (hd:d≤d'):WF V ss d' t:=by
 induction h generalizing d' with
 | nil=>exact .nil
 | cons h1 h2 h3 h4 ih1 ih2=>
   obtain⟨e,rfl⟩:∃ e,d'=e + 1:=⟨d' - 1,by omega⟩
   exact .cons (ih1 (by omega)) h2 h3 (ih2 hd)
theorem WF.append {V:List Var} {ss ss':List Nat} {d:Nat} {t t':Term} (h:WF V ss d t) (h':WF V ss' d t'):WF V (ss++ss') d (t++t'):=by
 induction h with
 | nil=>exact h'
 | cons h1 h2 h3 h4 ih1 ih2=>
   rw[List.cons_append,List.cons_append,List.append_assoc]
   exact .cons h1 h2 h3 (ih2 h')
theorem WF.one {V:List Var} {n:Node} {ss:List Nat} {s d:Nat} {ks:Term} (h:WF V ss d ks) (hn:NodeOk V n ss s ks) (hk:n.kids=ss.length):WF V [s] (d + 1) (n::ks):=by
 have:=WF.cons h hn hk .nil
 rwa [List.append_nil] at this
def GT (V:List Var) (s d m:Nat) (t:Term):Prop:=WF V [s] d t∧t.length≤m∧1≤s∧s≤4
theorem GT.up {V:List Var} {s d m d' m':Nat} {t:Term} (h:GT V s d m t) (hd:d≤d') (hm:m≤m'):GT V s d' m' t:=⟨h.1.up hd,by have:=h.2.1;omega,h.2.2⟩
theorem GT.leaf {V:List Var} {n:Node} {s:Nat} (hn:NodeOk V n [] s []) (hk:n.kids=0) (h1:1≤s) (h2:s≤4):GT V s 1 1 [n]:=⟨WF.one (d:=0) .nil hn hk,by simp,h1,h2⟩
theorem q6j {z:Int} (h:z.natAbs < 10 ^ 40):IntS (z3k z):=⟨z,rfl,h⟩
theorem x5d {k:Nat} (h:k < 10):IntS [48 + k]:=⟨k,by rw[z3k,if_neg (by omega),Int.natAbs_natCast,z9r h],by simp;omega⟩
theorem Pure.tab {f:Nat} {args:List AV} {tab:List (List AV×AV)} {v:AV} (hext:Gam.ext f=some (z7w tab)) (hobs:z3y args=[]) (hv:z7w tab (cvL args)=some v):Pure Gam f args v:=by
 intro h clk
 constructor
 ·refine⟨0, ?_⟩
  unfold z5f z0q
  simp only[hext,z1o hobs,z5a hobs,List.isEmpty_nil,if_true,hv,Option.map_some]
 ·unfold z0z
  simp only[hext,hobs,List.map_nil,List.append_nil]
def value (s:Nat) (b:Bool) (a:List Nat) (ks vs:List AV):AV:= .agg [nat s, .bool b, .str a, .sl ks .no, .sl vs .no]
def SmallV (s:Nat) (v:AV):Prop:=∃ t,z7w z2w [v]=some (.tup [z0i t, .int .i64 0])∧(∀ V,GT V s 3 5 t)∧v.obs=[]∧v.cv=v∧v.ids=[]∧v.def? =true∧v.cells.length=5∧v.cells.all AV.one=true
theorem z7e {k:Nat} (h:k < 10):z3k (k:Int)=[48 + k]:=by rw[z3k,if_neg (by omega),Int.natAbs_natCast,z9r h]
theorem j8h (b:Bool):SmallV 1 (value 1 b [] [] []):=by
 cases b
 ·exact⟨[bare 2 0],rfl,fun V=>(GT.leaf (.bool (.inr rfl)) rfl (by omega) (by omega)).up (by omega) (by omega),rfl,rfl,rfl,rfl,rfl,rfl⟩
 ·exact⟨[bare 1 0],rfl,fun V=>(GT.leaf (.bool (.inl rfl)) rfl (by omega) (by omega)).up (by omega) (by omega),rfl,rfl,rfl,rfl,rfl,rfl⟩
theorem x9b {k:Nat} (h:k < 10) (h0:0 < k):z3k (-(k:Int))=[45,48 + k]:=by
 rw[z3k,if_pos (by omega),show (-(k:Int)).natAbs=k by omega,z9r h]
theorem k2p {s:Nat} (hs:s=2∨s=3) {z:Int} (h1: -2≤z) (h2:z≤3):SmallV s (value s false (z3k z) [] []):=by
 have hi:IntS (z3k z):=q6j (by omega)
 refine⟨[⟨3,s,[],z3k z,0⟩], ?_,fun V=> ?_,rfl,rfl,rfl,rfl,rfl,rfl⟩
 ·have:z3k z=[45,50]∧z= -2∨z3k z=[45,49]∧z= -1∨z3k z=[48]∧z=0∨z3k z=[49]∧z=1∨z3k z=[50]∧z=2∨z3k z=[51]∧z=3:=by
   rcases (by omega:z= -2∨z= -1∨z=0∨z=1∨z=2∨z=3) with rfl | rfl | rfl | rfl | rfl | rfl
   ·exact .inl ⟨x9b (k:=2) (by omega) (by omega),rfl⟩
   ·exact .inr (.inl ⟨x9b (k:=1) (by omega) (by omega),rfl⟩)
   ·exact .inr (.inr (.inl ⟨z7e (k:=0) (by omega),rfl⟩))
   ·exact .inr (.inr (.inr (.inl ⟨z7e (k:=1) (by omega),rfl⟩)))
   ·exact .inr (.inr (.inr (.inr (.inl ⟨z7e (k:=2) (by omega),rfl⟩))))
   ·exact .inr (.inr (.inr (.inr (.inr ⟨z7e (k:=3) (by omega),rfl⟩))))
  rcases hs with rfl | rfl <;> rcases this with ⟨e,_⟩ | ⟨e,_⟩ | ⟨e,_⟩ | ⟨e,_⟩ | ⟨e,_⟩ | ⟨e,_⟩ <;> rw[e] <;> rfl
 ·rcases hs with rfl | rfl
  ·exact (GT.leaf (.int hi) rfl (by omega) (by omega)).up (by omega) (by omega)
  ·exact (GT.leaf (.real (.inl hi)) rfl (by omega) (by omega)).up (by omega) (by omega)
def y8k (k:Nat):Term:=[bare 20 1,⟨3,2,[],[48 + k],0⟩]
def u2w (k i j:Nat):Term:=[bare 19 3,bare 20 1,⟨3,2,[],[48 + k],0⟩,⟨3,2,[],[48 + i],0⟩,⟨3,2,[],[48 + j],0⟩]
theorem k2q {V:List Var} {k d:Nat} (h:k < 10):WF V [2] (d + 1) [⟨3,2,[],[48 + k],0⟩]:=WF.one .nil (.int (x5d h)) rfl
theorem k2r {V:List Var} {k d:Nat} (h:k < 10):WF V [4] (d + 2) (y8k k):=WF.one (k2q h) .const rfl
theorem w0p {V:List Var} {k:Nat} (h:k < 10):GT V 4 3 5 (y8k k):=⟨k2r h,by simp[y8k],by omega,by omega⟩
theorem w0q {V:List Var} {k i j:Nat} (h:k < 10) (hi:i < 10) (hj:j < 10):GT V 4 3 5 (u2w k i j):=by
 refine⟨?_,by simp[u2w],by omega,by omega⟩
 have:=((k2r (V:=V) (d:=0) h).append (k2q (d:=1) hi)).append (k2q (d:=1) hj)
 exact WF.one this .store rfl
def y1e (k i j:Nat):AV:=if j=k then value 4 false [48 + k] [] [] else value 4 false [48 + k] [.str [48 + i]] [.str [48 + j]]
theorem k2s {k i j:Nat} (hk:k < 3) (hi:i < 3) (hj:j < 3):z7w z6p [value 4 false [48 + k] [] [], .str [48 + i], .str [48 + j]]=some (.tup [y1e k i j, .int .i64 0]):=by
 have hk:k=0∨k=1∨k=2:=by omega
 have hi:i=0∨i=1∨i=2:=by omega
 have hj:j=0∨j=1∨j=2:=by omega
 rcases hk with rfl | rfl | rfl <;> rcases hi with rfl | rfl | rfl <;> rcases hj with rfl | rfl | rfl <;> rfl
theorem k2t {k i j:Nat} (hk:k < 3) (hi:i < 3) (hj:j < 3):SmallV 4 (y1e k i j):=by
 refine⟨if j=k then y8k k else u2w k i j, ?_,fun V=> ?_, ?_⟩
 ·have hk:k=0∨k=1∨k=2:=by omega
  have hi:i=0∨i=1∨i=2:=by omega
  have hj:j=0∨j=1∨j=2:=by omega
  rcases hk with rfl | rfl | rfl <;> rcases hi with rfl | rfl | rfl <;> rcases hj with rfl | rfl | rfl <;> rfl
 ·split
  ·exact w0p (by omega)
  ·exact w0q (by omega) (by omega) (by omega)
 ·unfold y1e
  split <;> exact⟨rfl,rfl,rfl,rfl,rfl,rfl⟩
theorem k8e {l:List Int} {s:Nat} (hl:q6i l) (h1:1≤s) (h2:s≤4):GenOk l 18 [nat s] fun v=>SmallV s v:=by
 refine GenOk.of rfl g2r rfl rfl rfl rfl rfl fun D B p g i clk T hB hs hD hi hT=> ?_
 obtain rfl | hs23 | rfl:s=1∨(s=2∨s=3)∨s=4:=by omega
 ·simp only[go_sem,y8h,nat,hB,Int.reduceEq,decide_true,decide_false]
  refine z0t (z3i hl (by decide) (by decide)) hB hs hD hi ?_
  rintro v D' i' ⟨r,rfl,hr1,hr2⟩ hB' hD' hi'
  simp only[go_sem,hB',Int.reduceEq,decide_true,decide_false]
  rw[z2q rfl rfl]
  exact hT _ _ i' (by rw[z1a hB' hs];exact hD') hi' (j8h _)
 ·have e1:decide ((s:Int)=1)=false:=by simp;omega
  have e2:decide ((s:Int)=4)=false:=by simp;omega
  simp only[go_sem,y8h,nat,hB,Int.reduceEq,e1,e2]
  refine z0t (z3i hl (by decide) (by decide)) hB hs hD hi ?_
  rintro v D' i' ⟨r,rfl,hr1,hr2⟩ hB' hD' hi'
  have e3:IntKind.i64.wrap (r - 2)=r - 2:=z0f (by omega) (by omega)
  simp only[go_sem,hB',e3]
  rw[z0a (q1r (by omega) (by omega))]
  simp only[go_sem,hB']
  rw[z2q rfl rfl]
  exact hT _ _ i' (by rw[z1a hB' hs];exact hD') hi' (k2p hs23 (by omega) (by omega))
 ·simp only[go_sem,y8h,nat,hB,Int.reduceEq,decide_true,decide_false]
  refine z0t (z3i hl (by decide) (by decide)) hB hs hD hi ?_
  rintro v D1 i1 ⟨r1,rfl,hr1,hr2⟩ hB1 hD1 hi1
  obtain⟨k,rfl⟩:∃ k:Nat,r1=k:=⟨r1.toNat,by omega⟩
  simp only[go_sem,hB1]
  rw[z0a (q1r (by omega) (by omega)),z7e (by omega)]
  simp only[go_sem,hB1,z0y]
  refine z0t (z3i hl (by decide) (by decide)) hB1 hs hD1 hi1 ?_
  rintro v D2 i2 ⟨r2,rfl,hr3,hr4⟩ hB2 hD2 hi2
  obtain⟨a,rfl⟩:∃ k:Nat,r2=k:=⟨r2.toNat,by omega⟩
  simp only[go_sem,hB2]
  rw[z0a (q1r (by omega) (by omega)),z7e (by omega)]
  simp only[go_sem,hB2]
  refine z0t (z3i hl (by decide) (by decide)) hB2 hs hD2 hi2 ?_
  rintro v D3 i3 ⟨r3,rfl,hr5,hr6⟩ hB3 hD3 hi3
  obtain⟨b,rfl⟩:∃ k:Nat,r3=k:=⟨r3.toNat,by omega⟩
  simp only[go_sem,hB3]
  rw[z0a (q1r (by omega) (by omega)),z7e (by omega)]
  simp only[go_sem,hB3]
  obtain⟨ks,vs,hv⟩:∃ ks vs,y1e k a b=value 4 false [48 + k] ks vs:=by
   unfold y1e
   split <;> exact⟨_,_,rfl⟩
  have hsm:=k2t (k:=k) (i:=a) (j:=b) (by omega) (by omega) (by omega)
  have htab:=k2s (k:=k) (i:=a) (j:=b) (by omega) (by omega) (by omega)
  rw[hv] at hsm htab
  have hp:Pure Gam 51 [.agg [.int .i64 4, .bool false, .str [48 + k], .sl [] .nil, .sl [] .nil], .str [48 + a], .str [48 + b]] _:=Pure.tab (tab:=z6p) rfl rfl htab
  rw[z0a hp]
  simp only[go_sem,hB3,value,nat]
  refine⟨by simp[z0v,apart,z0h,z0s,z0w,AOp.isCall,hB1];omega, ?_⟩
  obtain⟨t,q1,q2,q3,q4,q5,q6⟩:=hsm
  rw[z2q (v:= .agg [.int .i64 4, .bool false, .str [48 + k], .sl ks .no, .sl vs .no]) rfl q5]
  exact hT _ _ i3 (by rw[z1a hB3 hs];exact hD3) hi3 ⟨t,q1,q2,q3,q4,q5,q6⟩
theorem j1t {s:Nat} {v:AV} (hv:SmallV s v):∃ t,Pure Gam 164 [v] (.tup [z0i t, .int .i64 0])∧∀ V,GT V s 3 5 t:=by
 obtain⟨t,q1,q2,q3,q4,q5,q6⟩:=hv
 refine⟨t,Pure.tab (tab:=z2w) rfl (by simp[z3y,q3]) (by simp only[cvL,q4];exact q1),q2⟩
def x0e (V:List Var) (s d m:Nat) (v:AV):Prop:=∃ t,v=z0i t∧GT V s d m t
theorem z9a {l:List Var} {i:Nat} {h:List AObj} {t:Tip} {k:IntKind} (hi:i < l.length):z1n h 2 (.sl (l.map z1h) t) (.int k (i:Int))=some (.iptr [.str l[i].name,nat l[i].sort] 0,h):=z3j hi rfl rfl
theorem q2d {l:List Int} {s:Nat} {V:List Var} {u:Tip} (hl:q6i l) (h1:1≤s) (h2:s≤4) (hV:V.length≤400):GenOk l 99 [nat s, .sl (V.map z1h) u] (x0e V s 3 5):=by
 refine GenOk.of rfl u2k rfl rfl rfl (az:=[nat s, .sl (V.map z1h) .no]) rfl (by simp[idsL,z3q,AV.ids,z0b z1k]) fun D B p g i clk T hB hs hD hi hT=> ?_
 simp only[go_sem,y0o,hB]
 refine z1q (fun m q=>∃ (j:Nat) (acc:List Var) (t:Tip) (a b c d:AObj),j≤V.length∧m=V.length - j∧acc.length≤j∧(∀ v∈acc,v∈V∧v.sort=s)∧q.ts 0= .ptr p g 0 0∧q.ts 1=nat s∧q.ts 2= .sl (V.map z1h) .no∧q.ts 7= .sl (acc.map z1h) t∧q.ts 8= .int .i64 j∧q.h=D++[a,b,c,d]∧z7x B 1 b t 2) V.length ?_ ?_
 ·exact⟨0,[], .nil,_,_,_,_,by simp,rfl,by simp,by simp,rfl,rfl,rfl,rfl,rfl,rfl, .inl rfl⟩
 rintro m ⟨ts,h,clk⟩ P ⟨j,acc,t,a,b,c,d,hj,rfl,hal,hacc,g0,g1,g2,g7,g8,rfl,ht⟩ hn he hr
 dsimp only at g0 g1 g2 g7 g8
 simp only[go_sem,g0,g1,g2,g7,g8,List.length_map,k1z]
 refine z8i (fun hb=> ?_) (fun hb=> ?_)
 ·have hlt:j < V.length:=by simp at hb;omega
  simp only[go_sem,g0,g1,g2,g7,g8,z9a hlt,nat]
  have e1:IntKind.i64.wrap ((j:Int) + 1)=((j + 1:Nat):Int):=z0f (by omega) (by omega)
  refine z8i (fun hc=> ?_) (fun hc=> ?_)
  ·have hsort:V[j].sort=s:=by simp at hc;omega
   simp only[go_sem,g0,g1,g2,g7,g8,z9a hlt,nat]
   rw[show [AV.agg [.str V[j].name, .int .i64 (V[j].sort:Int)]]=[V[j]].map z1h from rfl,z0k hB rfl ht z3d z3d (by simp only[List.length_map,List.length_singleton];omega)]
   simp only[go_sem,g0,g1,g2,g7,g8,e1]
   refine hn (V.length - (j + 1)) _ (by omega) ⟨j + 1,acc++[V[j]],_,_,_,_,_,hlt,rfl,by simp;omega, ?_,g0,g1,g2, ?_,rfl,rfl, .inr (.inr ⟨_,rfl,rfl⟩)⟩
   ·intro v hv
    rw[List.mem_append,List.mem_singleton] at hv
    rcases hv with hv | rfl
    ·exact hacc v hv
    ·exact⟨List.getElem_mem hlt,hsort⟩
   ·simp only[z0c,z0,cond_true,cond_false,List.map_append,List.map_cons,List.map_nil]
  ·simp only[go_sem,g0,g1,g2,g7,g8,e1]
   exact hn (V.length - (j + 1)) _ (by omega) ⟨j + 1,acc,t,_,_,_,_,hlt,rfl,by omega,hacc,g0,g1,g2,g7,rfl,rfl,ht⟩
 ·simp only[go_sem,]
  refine he _ _ ?_
  simp only[go_sem,g0,g1,g2,g7,g8,List.length_map]
  refine z8i (fun hc=> ?_) (fun hc=> ?_)
  ·simp only[go_sem,g0,g1,g2,g7,g8]
   refine z0t (k8e hl h1 h2) hB hs hD hi ?_
   rintro v D1 i1 hv hB1 hD1 hi1
   simp only[go_sem,g0,g1,g2,g7,g8]
   obtain⟨t,hp,hg⟩:=j1t hv
   rw[z0a hp]
   simp only[go_sem,g0,g1,g2,g7,g8]
   rw[z1g]
   exact hT _ _ i1 (by rw[z1a hB1 hs];exact hD1) hi1 ⟨t,rfl,hg V⟩
  ·have hlen:acc.length≠0:=by simpa using hc
   simp only[go_sem,g0,g1,g2,g7,g8,List.length_map]
   refine z0t (z3i hl (by omega) (by omega)) hB hs hD hi ?_
   rintro v D1 i1 ⟨r,rfl,hr1,hr2⟩ hB1 hD1 hi1
   obtain⟨k,rfl⟩:∃ k:Nat,r=k:=⟨r.toNat,by omega⟩
   have hk:k < acc.length:=by omega
   simp only[go_sem,g0,g1,g2,g7,g8,hB1,z0y,z9a hk,nat]
   obtain⟨hm,hsrt⟩:=hacc acc[k] (List.getElem_mem hk)
   have hn:NodeOk V ⟨4,s,acc[k].name,[],0⟩ [] s []:=by
    have:=NodeOk.var (ks:=[]) hm
    rw[hsrt] at this
    exact this
   show RV _ (some [.sl (List.map eNode [⟨4,s,acc[k].name,[],0⟩]) .full]) _ _
   rw[k2m]
   exact hT _ _ i1 (by rw[z1a hB1 hs];exact hD1) hi1 ⟨_,rfl,(GT.leaf hn rfl h1 h2).up (by omega) (by omega)⟩
section
theorem x5e {o:Nat} {l:List Term} {u:Tip} (hl:l.length≤2 ^ 20) (hf:l.flatten.length≤2 ^ 30):Pure Gam 57 [nat o, .sl (l.map z0i) u] (z0i (bare o l.length::l.flatten)):=by
 refine Pure.of rfl u2j rfl rfl rfl (az:=[nat o, .sl (l.map z0i) .no]) rfl (by simp[idsL,z3q,AV.ids,z0b z1f]) fun D B clk T hB hT=> ?_
 have hp:Pure Gam 80 [.agg [.int .i64 o, .int .i64 0, .str [], .str [], .int .i64 0], .sl (l.map z0i) .no] (z0i (bare o l.length::l.flatten)):=j1r (n:=bare o 0) hl hf
 simp only[go_sem,y0n,nat,hB,z0y]
 rw[z0a hp]
 simp only[go_sem,]
 rw[z1g]
 exact hT _
theorem opn {o:Nat} {i:Int} {l:List Term} {u:Tip} (hi:i=o) (hl:l.length≤2 ^ 20) (hf:l.flatten.length≤2 ^ 30):Pure Gam 57 [.int .i64 i, .sl (l.map z0i) u] (z0i (bare o l.length::l.flatten)):=by
 subst hi
 exact x5e hl hf
theorem op1 {o:Nat} {i:Int} {a:Term} (hi:i=o) (ha:a.length≤2 ^ 20):Pure Gam 57 [.int .i64 i, .sl [z0i a] .full] (z0i (bare o 1::a)):=by
 subst hi
 have:=x5e (o:=o) (l:=[a]) (u:= .full) (by simp) (by simp;omega)
 simpa [nat] using this
theorem op2 {o:Nat} {i:Int} {a b:Term} (hi:i=o) (ha:a.length≤2 ^ 20) (hb:b.length≤2 ^ 20):Pure Gam 57 [.int .i64 i, .sl [z0i a,z0i b] .full] (z0i (bare o 2::(a++b))):=by
 subst hi
 have:=x5e (o:=o) (l:=[a,b]) (u:= .full) (by simp) (by simp;omega)
 simpa [nat] using this
theorem op3 {o:Nat} {i:Int} {a b c:Term} (hi:i=o) (ha:a.length≤2 ^ 20) (hb:b.length≤2 ^ 20) (hc:c.length≤2 ^ 20):Pure Gam 57 [.int .i64 i, .sl [z0i a,z0i b,z0i c] .full] (z0i (bare o 3::(a++(b++c)))):=by
 subst hi
 have:=x5e (o:=o) (l:=[a,b,c]) (u:= .full) (by simp) (by simp;omega)
 simpa [nat] using this
section
variable {V:List Var}
theorem GT.op1 {o s s1 d m:Nat} {a:Term} (ha:GT V s1 d m a) (hn:NodeOk V (bare o 1) [s1] s a) (h1:1≤s) (h2:s≤4):GT V s (d + 1) (m + 1) (bare o 1::a):=
 ⟨WF.one ha.1 hn rfl,by have:=ha.2.1;simp;omega,h1,h2⟩
theorem GT.op2 {o s s1 s2 d m1 m2:Nat} {a b:Term} (ha:GT V s1 d m1 a) (hb:GT V s2 d m2 b) (hn:NodeOk V (bare o 2) [s1,s2] s (a++b)) (h1:1≤s) (h2:s≤4):GT V s (d + 1) (m1 + m2 + 1) (bare o 2::(a++b)):=
 ⟨WF.one (ha.1.append hb.1) hn rfl,by have:=ha.2.1;have:=hb.2.1;simp;omega,h1,h2⟩
theorem GT.op3 {o s s1 s2 s3 d m1 m2 m3:Nat} {a b c:Term} (ha:GT V s1 d m1 a) (hb:GT V s2 d m2 b) (hc:GT V s3 d m3 c) (hn:NodeOk V (bare o 3) [s1,s2,s3] s (a++(b++c))) (h1:1≤s) (h2:s≤4):GT V s (d + 1) (m1 + m2 + m3 + 1) (bare o 3::(a++(b++c))):=
 ⟨WF.one (ha.1.append (hb.1.append hc.1)) hn rfl,by have:=ha.2.1;have:=hb.2.1;have:=hc.2.1;simp;omega,h1,h2⟩
end
def TB (s d:Nat):Nat:=if s=1 then 11 * 6 ^ d else 5 * 6 ^ d
theorem bs5 {h:List AObj}:bsV h (.int .i64 0) 5 [0,1,2,3,4] [.int .i64 2, .int .i64 2, .int .i64 3, .int .i64 4, .int .i64 1]=some (.sl [.int .i64 2, .int .i64 2, .int .i64 3, .int .i64 4, .int .i64 1] .full,h):=(rfl)
theorem g3c {r:Nat} {h:List AObj} (hr:r < 5):∃ s:Nat,1≤s∧s≤4∧z1n h 1 (.sl [.int .i64 2, .int .i64 2, .int .i64 3, .int .i64 4, .int .i64 1] .full) (.int .i64 (r:Int))=some (.iptr [.int .i64 (s:Int)] 0,h):=by
 obtain rfl | rfl | rfl | rfl | rfl:r=0∨r=1∨r=2∨r=3∨r=4:=by omega
 ·exact⟨2,by omega,by omega,rfl⟩
 ·exact⟨2,by omega,by omega,rfl⟩
 ·exact⟨3,by omega,by omega,rfl⟩
 ·exact⟨4,by omega,by omega,rfl⟩
 ·exact⟨1,by omega,by omega,rfl⟩
variable {l:List Int} {V:List Var}
theorem z6b:(AV.sl (V.map z1h) .no).ids=[]:=k2j z1k
theorem k2u {d k m:Nat} {u:Tip} (hl:q6i l) (hV:V.length≤400) (hk:3≤k) (hm:5≤m) (hm2:m≤2 ^ 18) (hT:∀ s,2≤s→s≤4→GenOk l 100 [nat s,nat d, .sl (V.map z1h) .no] (x0e V s k m)):GenOk l 56 [nat d, .sl (V.map z1h) u] (x0e V 1 (k + 1) (2 * m + 1)):=by
 refine GenOk.of rfl u2n rfl rfl rfl (az:=[nat d, .sl (V.map z1h) .no]) rfl (by simp[idsL,z3q,z6b]) fun D B p g i clk T hB hs hD hi hR=> ?_
 simp only[go_sem,y0s,hB,nat,z0y,bs5]
 refine z0t (z3i hl (by decide) (by decide)) hB hs hD hi ?_
 rintro v D1 i1 ⟨r,rfl,hr1,hr2⟩ hB1 hD1 hi1
 obtain⟨q,rfl⟩:∃ k:Nat,r=k:=⟨r.toNat,by omega⟩
 obtain⟨s,hs1,hs4,hidx⟩:=g3c (r:=q) (h:=D1++[.dead, .dead]) (by omega)
 simp only[go_sem,hB1,hidx]
 refine z8i (fun hb=> ?_) (fun hb=> ?_)
 ·have hs1':s=1:=by simp at hb;omega
  subst hs1'
  simp only[go_sem,hB1]
  refine z0t (z3i hl (by decide) (by decide)) hB1 hs hD1 hi1 ?_
  rintro v D2 i2 ⟨r,rfl,hr3,hr4⟩ hB2 hD2 hi2
  simp only[go_sem,hB2]
  refine z8i (fun hc=> ?_) (fun hc=> ?_)
  ·simp only[go_sem,hB2]
   refine z0t (z3i hl (by decide) (by decide)) hB2 hs hD2 hi2 ?_
   rintro v D3 i3 ⟨r3,rfl,hr5,hr6⟩ hB3 hD3 hi3
   simp only[go_sem,hB3]
   rw[z0a x5b]
   simp only[go_sem,hB3]
   rw[z1g]
   refine hR _ _ i3 (by rw[z1a hB3 hs];exact hD3) hi3 ⟨_,rfl, ?_⟩
   refine (GT.leaf (n:=bare (if decide (r3=1)=true then 1 else 2) 0) (.bool ?_) rfl (by omega) (by omega)).up (by omega) (by omega)
   split <;> simp
  ·simp only[go_sem,hB2]
   refine z0t (q2d (s:=1) hl (by omega) (by omega) hV) hB2 hs hD2 hi2 ?_
   rintro v D3 i3 ⟨t,rfl,ht⟩ hB3 hD3 hi3
   simp only[go_sem,hB3]
   rw[z1g]
   exact hR _ _ i3 (by rw[z1a hB3 hs];exact hD3) hi3 ⟨_,rfl,ht.up (by omega) (by omega)⟩
 ·have hs2:2≤s:=by simp at hb;omega
  have fin:∀ (o:Nat) (ts:Tmps) (clk:Nat) (D2:List AObj) (i2:Nat) (a b:AObj),(o=11∨(s≠4∧(o=12∨o=13)))→D2.length=B→D2[p]? =some (z3v g l i2)→i2≤l.length→ts 8= .int .i64 (o:Int)→ts 0= .ptr p g 0 0→ts 7= .int .i64 (s:Int)→ts 1= .int .i64 (d:Int)→ts 2= .sl (V.map z1h) .no→
    K Gam B (.seq (.region 14 [⟨some 33, .move (.tmp 8),none⟩,⟨some 34, .move (.tmp 0),none⟩,⟨some 35, .move (.tmp 7),none⟩,⟨some 36, .move (.tmp 1),none⟩,⟨some 37, .move (.tmp 2),none⟩,⟨some 38, .call 100 [.tmp 34, .tmp 35, .tmp 36, .tmp 37],none⟩,⟨some 39, .move (.tmp 0),none⟩,⟨some 40, .move (.tmp 7),none⟩,⟨some 41, .move (.tmp 1),none⟩,⟨some 42, .move (.tmp 2),none⟩,⟨some 43, .call 100 [.tmp 39, .tmp 40, .tmp 41, .tmp 42],none⟩,⟨some 44, .buildSlice 1 false (.sl [] .nil) 2 [(0, .tmp 38),(1, .tmp 43)],none⟩,⟨some 45, .call 57 [.tmp 33, .tmp 44],none⟩,⟨some 6, .move (.tmp 45),none⟩] []) .ret) [] ⟨ts,D2++[a,b],clk⟩ (j9c [p] [.tmp 6] T):=by
   intro o ts clk D2 i2 a b ho hB2 hD2 hi2 g8 g0 g7 g1 g2
   simp only[go_sem,g8,g0,g7,g1,g2]
   refine z0t (hT s hs2 hs4) hB2 hs hD2 hi2 ?_
   rintro v D3 i3 ⟨t1,rfl,ht1⟩ hB3 hD3 hi3
   simp only[go_sem,g8,g0,g7,g1,g2]
   refine z0t (hT s hs2 hs4) hB3 hs hD3 hi3 ?_
   rintro v D4 i4 ⟨t2,rfl,ht2⟩ hB4 hD4 hi4
   simp only[go_sem,g8,g0,g7,g1,g2,z3m]
   have l1:=ht1.2.1
   have l2:=ht2.2.1
   rw[z0a (op2 rfl (by omega) (by omega))]
   simp only[go_sem,]
   rw[z1g]
   refine hR _ _ i4 (by rw[z1a hB4 hs];exact hD4) hi4 ⟨_,rfl,(GT.op2 ht1 ht2 ?_ (by omega) (by omega)).up (by omega) (by omega)⟩
   rcases ho with rfl | ⟨hs',ho⟩
   ·exact .eq hs1 hs4
   ·exact .cmp ho (by omega)
  simp only[go_sem,hB1]
  refine z8i (fun hc=> ?_) (fun hc=> ?_)
  ·have hs3:s≠4:=by simp at hc;omega
   simp only[go_sem,hB1]
   refine z0t (z3i hl (by decide) (by decide)) hB1 hs hD1 hi1 ?_
   rintro v D2 i2 ⟨r,rfl,hr3,hr4⟩ hB2 hD2 hi2
   obtain⟨q,rfl⟩:∃ k:Nat,r=k:=⟨r.toNat,by omega⟩
   have e1:IntKind.i64.wrap (11 + (q:Int))=((11 + q:Nat):Int):=by rw[z0f (by omega) (by omega)];omega
   simp only[k0z,v2g,v2j,j3s,z0c,z0,cond_true,cond_false,z8c,x8t,v2h,q4a,e1,q9t,q6g]
   exact fin (11 + q) _ _ D2 i2 _ _ (by omega) hB2 hD2 hi2 rfl rfl rfl rfl rfl
  ·rw[q6g]
   exact fin 11 _ _ D1 i1 _ _ (.inl rfl) hB1 hD1 hi1 rfl rfl rfl rfl rfl
end
section
variable {l:List Int} {V:List Var}
def x0f (l:List Int) (V:List Var) (d:Nat):Prop:=∀ s,1≤s→s≤4→GenOk l 100 [nat s,nat d, .sl (V.map z1h) .no] (x0e V s (d + 4) (TB s d))
def q5l (l:List Int) (V:List Var) (d:Nat):Prop:=GenOk l 21 [nat d, .sl (V.map z1h) .no] (x0e V 1 (d + 4) (11 * 6 ^ d))
def u2x (l:List Int) (V:List Var) (d:Nat):Prop:=∀ s,1≤s→s≤4→GenOk l 58 [nat s,nat d, .sl (V.map z1h) .no] (x0e V s (d + 4) (TB s d))
def g3d (l:List Int) (V:List Var) (d:Nat):Prop:=∀ s,s=2∨s=3→GenOk l 165 [nat s,nat d, .sl (V.map z1h) .no] (x0e V s (d + 4) (TB s d))
theorem z5x {e:Nat} (he:e≤10):IntKind.i64.wrap (((e + 1:Nat):Int) - 1)=(e:Int):=by rw[z0f (by omega) (by omega)];omega
theorem j1u {s e:Nat}:TB s (e + 1)=6 * TB s e:=by unfold TB;split <;> rw[Nat.pow_succ] <;> omega
theorem y1f {s e:Nat}:TB s e≤11 * 6 ^ e:=by
 have:1≤6 ^ e:=Nat.pos_of_ne_zero (by simp)
 unfold TB;split <;> omega
theorem y1g {s e:Nat}:5 * 6 ^ e≤TB s e:=by
 unfold TB;split <;> omega
theorem k2v {e:Nat} (he:e≤3) (hF:q5l l V e) (hT:x0f l V e):u2x l V (e + 1):=by
 intro s h1 h2
 refine GenOk.of rfl u2o rfl rfl rfl (az:=[nat s,nat (e + 1), .sl (V.map z1h) .no]) rfl (by simp[idsL,z3q,z6b]) fun D B p g i clk T hB hs hD hi hR=> ?_
 have h6:6 ^ e≤6 ^ 4:=Nat.pow_le_pow_right (by omega) (by omega)
 have h6':1≤6 ^ e:=Nat.pos_of_ne_zero (by simp)
 have em:=z5x (e:=e) (by omega)
 simp only[go_sem,y0t,hB,nat,em]
 refine z0t hF hB hs hD hi ?_
 rintro v D1 i1 ⟨t1,rfl,ht1⟩ hB1 hD1 hi1
 simp only[go_sem,em]
 refine z0t (hT s h1 h2) hB1 hs hD1 hi1 ?_
 rintro v D2 i2 ⟨t2,rfl,ht2⟩ hB2 hD2 hi2
 simp only[go_sem,em]
 refine z0t (hT s h1 h2) hB2 hs hD2 hi2 ?_
 rintro v D3 i3 ⟨t3,rfl,ht3⟩ hB3 hD3 hi3
 have l1:=ht1.2.1
 have l2:=ht2.2.1
 have l3:=ht3.2.1
 have lb:TB s e≤11 * 6 ^ e:=y1f
 simp only[go_sem,z3m]
 rw[z0a (op3 (o:=10) (i:=10) rfl (by omega) (by omega) (by omega))]
 simp only[go_sem,]
 rw[z1g]
 refine hR _ _ i3 (by rw[z1a hB3 hs];exact hD3) hi3 ⟨_,rfl,(GT.op3 ht1 ht2 ht3 (.ite h1 h2) h1 h2).up (by omega) ?_⟩
 rw[j1u]
 unfold TB
 split <;> omega
theorem q4d {s:Nat} (hl:q6i l) (hV:V.length≤400) (h1:1≤s) (h2:s≤4):GenOk l 100 [nat s,nat 0, .sl (V.map z1h) .no] (x0e V s 3 5):=by
 refine GenOk.of rfl y0q rfl rfl rfl (az:=[nat s,nat 0, .sl (V.map z1h) .no]) rfl (by simp[idsL,z3q,z6b]) fun D B p g i clk T hB hs hD hi hR=> ?_
 simp only[go_sem,v9w,hB,nat,Int.reduceLE,decide_true]
 refine z0t (z3i hl (by decide) (by decide)) hB hs hD hi ?_
 rintro v D1 i1 ⟨r,rfl,hr1,hr2⟩ hB1 hD1 hi1
 simp only[go_sem,hB1]
 refine z8i (fun hc=> ?_) (fun hc=> ?_)
 ·simp only[go_sem,]
  refine z0t (k8e hl h1 h2) hB1 hs hD1 hi1 ?_
  rintro v D2 i2 hv hB2 hD2 hi2
  simp only[go_sem,]
  obtain⟨t,hp,hg⟩:=j1t hv
  rw[z0a hp]
  simp only[go_sem,]
  rw[z1g]
  exact hR _ _ i2 (by rw[z1a hB2 hs];exact hD2) hi2 ⟨t,rfl,(hg V).up (by omega) (by omega)⟩
 ·simp only[go_sem,]
  refine z0t (q2d hl h1 h2 hV) hB1 hs hD1 hi1 ?_
  rintro v D2 i2 ⟨t,rfl,ht⟩ hB2 hD2 hi2
  simp only[go_sem,]
  rw[z1g]
  exact hR _ _ i2 (by rw[z1a hB2 hs];exact hD2) hi2 ⟨t,rfl,ht.up (by omega) (by omega)⟩
end
end Go.Proofs.YtdfepmffiampgaaGreatDoor.Am
