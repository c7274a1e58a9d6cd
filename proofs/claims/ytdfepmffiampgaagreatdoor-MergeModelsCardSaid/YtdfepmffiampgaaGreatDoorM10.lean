/- Walking code of the abstract machine: calls, and its operations az equations Functions that are told: slices Programs whose functions are told by tables What the functions answer that awake calls -/
import Derived.IntWalk
import Derived.Attr
import Derived.Lib.Bytealg
import Derived.Laws.Externs
import Derived.Test.YtdfepmffiampgaaGreatDoorM09
open Nat renaming reduceBEq → z0,reduceAdd → z1,reduceLeDiff → z2,reduceSub → z3
set_option linter.all false
namespace Go.Proofs.YtdfepmffiampgaaGreatDoor.Am
open Go
set_option maxRecDepth 100000
section
mutual
def AV.cv:AV→AV
 | .agg cs=> .agg (cvL cs)
 | .tup cs=> .tup (cvL cs)
 | .sl xs _=> .sl xs .no
 | v=>v
def cvL:List AV→List AV
 | []=>[]
 | v::vs=>v.cv::cvL vs
end
mutual
theorem q3y {h:List AObj}:∀ {v:AV},v.obs=[]→conv h v=some v.cv
 | .agg cs,ho=>by
   simp only[conv,AV.cv,q5h (by simpa only[AV.obs] using ho),Option.map_some]
 | .tup cs,ho=>by
   simp only[conv,AV.cv,q5h (by simpa only[AV.obs] using ho),Option.map_some]
 | .ob ..,ho=>by simp[AV.obs] at ho
 | .sl _ _,_=>rfl
 | .undef,_=>rfl
 | .int ..,_=>rfl
 | .bool _,_=>rfl
 | .str _,_=>rfl
 | .ptr ..,_=>rfl
 | .iptr ..,_=>rfl
 | .nilptr,_=>rfl
 | .mp ..,_=>rfl
 | .nilmap,_=>rfl
 | .fn ..,_=>rfl
 | .nilfn,_=>rfl
 | .nilif,_=>rfl
 | .bwd ..,_=>rfl
theorem q5h {h:List AObj}:∀ {vs:List AV},z3y vs=[]→z7h h vs=some (cvL vs)
 | [],_=>rfl
 | v::vs,ho=>by
   simp only[z3y,List.append_eq_nil_iff] at ho
   simp only[z7h,cvL,q3y ho.1,q5h ho.2]
end
theorem z1o {h:List AObj}:∀ {vs:List AV} {i:Nat},z3y vs=[]→z1d h [] i vs=some (cvL vs)
 | [],_,_=>rfl
 | v::vs,i,ho=>by
   simp only[z3y,List.append_eq_nil_iff] at ho
   simp only[z1d,cvL,List.contains_nil,Bool.false_eq_true,if_false,q3y ho.1,z1o ho.2]
theorem z5a:∀ {vs:List AV} {i:Nat},z3y vs=[]→z0p [] i vs=[]
 | [],_,_=>rfl
 | v::vs,i,ho=>by
   simp only[z3y,List.append_eq_nil_iff] at ho
   simp only[z0p,List.contains_nil,Bool.false_eq_true,if_false,ho.1,z5a ho.2,List.append_nil]
theorem z5b {T:List Nat}:∀ {h:List AObj} {k:Nat},(maskFrom T k h).length=h.length
 | [],_=>rfl
 | o::h,k=>by simp[maskFrom,z5b]
theorem q9u {T:List Nat}:∀ {h:List AObj} {k i:Nat},T.contains (k + i)=true→(maskFrom T k h)[i]? =h[i]?
 | [],_,_,_=>rfl
 | o::h,k,0,ht=>by
   rw[Nat.add_zero] at ht
   simp only[maskFrom,ht,if_true,List.getElem?_cons_zero]
 | o::h,k,i + 1,ht=>by
   simp only[maskFrom,List.getElem?_cons_succ]
   exact q9u (by rw[Nat.add_assoc,Nat.add_comm 1 i];exact ht)
theorem z7t:∀ {h h':List AObj} {k:Nat},z0r [] k h h'=h
 | [],[],_=>rfl
 | [],_::_,_=>rfl
 | o::h,[],_=>rfl
 | o::h,o'::h',k=>by simp[z0r,z7t]
theorem q9v {s:Nat}:∀ {h h':List AObj} {k:Nat} {o:AObj},s < h.length→h'[s]? =some o→z0r [k + s] k h h'=h.set s o
 | [],h',k,o,hs,_=>by simp at hs
 | a::h,[],k,o,hs,ho=>by simp at ho
 | a::h,b::h',k,o,hs,ho=>by
   cases s with
   | zero=>
     simp at ho
     subst ho
     have:∀ {h h':List AObj} {j:Nat},k < j→z0r [k] j h h'=h:=by
      intro h
      induction h with
      | nil=>intro h' j _;cases h' <;> rfl
      | cons x h ih=>
        intro h' j hj
        cases h' with
        | nil=>rfl
        | cons y h'=>
          have hne:¬ j=k:=by omega
          simp only[z0r,List.contains_cons,List.contains_nil,Bool.or_false,beq_iff_eq,hne,if_false]
          rw[ih (by omega)]
     simp only[z0r,Nat.add_zero,List.contains_cons,List.contains_nil,Bool.or_false,beq_self_eq_true,if_true,List.set_cons_zero]
     rw[this (by omega)]
   | succ s=>
     have hne:¬ k=k + (s + 1):=by omega
     simp only[z0r,List.contains_cons,List.contains_nil,Bool.or_false,beq_iff_eq,hne,if_false,List.set_cons_succ]
     rw[show k + (s + 1)=k + 1 + s by omega,q9v (by simpa using hs) (by simpa using ho)]
def x3c (T:List Nat) (os:List (Nat×Nat)):Bool:=os.all fun p=> !T.contains p.1
def RV (T:List Nat) (x:Option (List AV)) (R:AV→List AObj→Prop) (h:List AObj):Prop:=
 match x with
 | some vs=>∃ v,conv h (z1l vs)=some v∧v.ids=[]∧x3c T (z1l vs).obs=true∧R v h
 | none=>False
def j9c (T:List Nat) (rs:List ARes) (R:AV→List AObj→Prop):Post:=fun e s=>(∀ i,e≠ .exit i)∧RV T (z1z s.h s.ts rs) R s.h
theorem z0j {T:List Nat} {vs:List AV} {R:AV→List AObj→Prop} {h:List AObj} (ho:(z1l vs).obs=[]) (hi:(z1l vs).cv.ids=[]):RV T (some vs) R h=R (z1l vs).cv h:=by
 apply propext
 constructor
 ·rintro ⟨v,h1,_,_,h2⟩
  rw[q3y ho] at h1
  injection h1 with h1
  subst h1
  exact h2
 ·exact fun hr=>⟨_,q3y ho,hi,by rw[ho];rfl,hr⟩
section
variable {Γ:AProg}
theorem q3d {s:Nat}:∀ {os:List (Nat×Nat)} {h:List AObj},os.all (fun p=> !([s].contains p.1))=true→(freezeAll h os)[s]? =h[s]?
 | [],_,_=>rfl
 | o::os,h,ho=>by
   simp only[List.all_cons,Bool.and_eq_true,Bool.not_eq_true'] at ho
   simp only[freezeAll]
   rw[q3d (by simpa using ho.2)]
   have hne:o.1≠s:=by
    have:=ho.1
    simp at this
    exact this
   split
   ·rw[List.getElem?_set_ne hne]
   ·rfl
theorem q8f {T:List Nat} {rs:List ARes} {R:AV→List AObj→Prop} {e:AEx} {s:St} (h:j9c T rs R e s):(∀ i,e≠ .exit i)∧∃ vs v,z1z s.h s.ts rs=some vs∧conv s.h (z1l vs)=some v∧v.ids=[]∧x3c T (z1l vs).obs=true∧R v s.h:=by
 obtain⟨h1,h2⟩:=h
 refine⟨h1, ?_⟩
 unfold RV at h2
 split at h2
 ·rename_i vs hv
  obtain⟨v,h3,h4,h5,h6⟩:=h2
  exact⟨vs,v,hv,h3,h4,h5,h6⟩
 ·exact h2.elim
theorem k6p {T:List Nat} {rs:List ARes} {R:AV→List AObj→Prop} {ts:Tmps} {h:List AObj} {c:Nat}:j9c T rs R .ret ⟨ts,h,c⟩=RV T (z1z h ts rs) R h:=by
 simp[j9c]
theorem k0u {T:List Nat} {rs:List ARes} {R:AV→List AObj→Prop} {ts:Tmps} {h:List AObj} {c:Nat}:j9c T rs R .norm ⟨ts,h,c⟩=RV T (z1z h ts rs) R h:=by
 simp[j9c]
theorem q3z {f:Nat} {args az:List AV} {h:List AObj} {clk:Nat} {af:AFun} {Q:AV→List AObj→Nat→Prop} (hext:Γ.ext f=none) (hfn:Γ.fn f=some af) (hb:af.byref=[]) (ho:af.owned=false) (hobs:z3y args=[]) (has:cvL args=az) (hids:idsL az=[])
  (hw:∀ (D:List AObj) (B:Nat) (R:AV→List AObj→Prop),D.length=B→(∀ v h',Q v h clk→R v h')→K Γ B af.body [] ⟨z9z az,D++List.replicate af.nslots .dead,clk⟩ (j9c [] af.results fun v h'=>R v h')):WC Γ f args h clk Q:=by
 obtain⟨k,e,s,he,hend⟩:=hw (maskFrom [] 0 h) _ (fun v _=>Q v h clk) rfl (fun _ _ h=>h)
 obtain⟨hne,vs,v,hr,hc,hv,_,hQ⟩:=q8f hend
 rw[z5b] at he
 refine⟨k,v,h,clk, ?_,hQ⟩
 have hp:z1d h af.byref 0 args=some az:=by rw[hb,z1o hobs,has]
 have hl:z0p af.byref 0 args=[]:=by rw[hb];exact z5a hobs
 unfold z5f z0q
 simp only[hext,hfn,hp,hl,freezeAll,hids,reach,he,ho,Bool.false_eq_true,if_false,hr,hc,z7t]
 cases e with
 | exit i=>exact absurd rfl (hne i)
 | norm=>simp[hv]
 | ret=>simp[hv]
theorem q1c {f:Nat} {args az:List AV} {h:List AObj} {af:AFun} (hfn:Γ.fn f=some af) (hb:af.byref=[]) (hobs:z3y args=[]) (has:cvL args=az) (hids:idsL az=[]):z0z Γ f args h=[]:=by
 unfold z0z
 rw[hobs]
 cases Γ.ext f with
 | some _=>rfl
 | none=>
   have hp:z1d h af.byref 0 args=some az:=by rw[hb,z1o hobs,has]
   simp only[hfn,hp,hids,reach]
   rfl
theorem Pure.of {f:Nat} {args az:List AV} {v:AV} {af:AFun} (hext:Γ.ext f=none) (hfn:Γ.fn f=some af) (hb:af.byref=[]) (ho:af.owned=false) (hobs:z3y args=[]) (has:cvL args=az) (hids:idsL az=[])
  (hw:∀ (D:List AObj) (B clk:Nat) (R:AV→List AObj→Prop),D.length=B→(∀ h',R v h')→K Γ B af.body [] ⟨z9z az,D++List.replicate af.nslots .dead,clk⟩ (j9c [] af.results R)):Pure Γ f args v:=fun h clk=>by
 refine⟨?_,q1c hfn hb hobs has hids⟩
 obtain⟨k,v',h',c,he,rfl,rfl,rfl⟩:=q3z (Q:=fun v' h' c'=>v'=v∧h'=h∧c'=clk) hext hfn hb ho hobs has hids (fun D B R hB hR=>hw D B clk R hB (fun h'=>hR v h' ⟨rfl,rfl,rfl⟩))
 exact⟨k,he⟩
theorem x4w {T:List Nat}:∀ {h:List AObj} {k i:Nat},T.contains (k + i)=true→(maskFrom T k h)[i]? =h[i]?
 | [],_,_,_=>rfl
 | o::h,k,0,hc=>by
   rw[Nat.add_zero] at hc
   simp only[maskFrom,hc,if_true,List.getElem?_cons_zero]
 | o::h,k,i + 1,hc=>by
   simp only[maskFrom,List.getElem?_cons_succ]
   exact x4w (by rw[Nat.add_assoc,Nat.add_comm 1 i];exact hc)
theorem w5a {f s:Nat} {args az:List AV} {h:List AObj} {clk:Nat} {af:AFun} {obj:AObj} {Q:AV→List AObj→Nat→Prop} (hext:Γ.ext f=none) (hfn:Γ.fn f=some af) (hb:af.byref=[]) (ho:af.owned=false) (hobs:z3y args=[]) (has:cvL args=az) (hids:idsL az=[s]) (hs:h[s]? =some obj) (hoi:obj.ids=[])
  (hw:∀ (D:List AObj) (B:Nat) (R:AV→List AObj→Prop),D.length=B→D[s]? =some obj→s < B→(∀ v h' o',h'[s]? =some o'→o'.ids=[]→Q v (h.set s o') clk→R v h')→K Γ B af.body [] ⟨z9z az,D++List.replicate af.nslots .dead,clk⟩ (j9c [s] af.results R)):WC Γ f args h clk Q:=by
 have hlt:s < h.length:=by
  rw[List.getElem?_eq_some_iff] at hs
  exact hs.1
 have hp:z1d h af.byref 0 args=some az:=by rw[hb,z1o hobs,has]
 have hl:z0p af.byref 0 args=[]:=by rw[hb];exact z5a hobs
 obtain⟨k,e,s1,he,hend⟩:=hw (maskFrom [s] 0 h) _ (fun v h'=>∃ o',h'[s]? =some o'∧o'.ids=[]∧Q v (h.set s o') clk) rfl (by rw[x4w (by simp)];exact hs) (by rw[z5b];exact hlt) (fun v h' o' h1 h2 h3=>⟨o',h1,h2,h3⟩)
 obtain⟨hne,vs,v,hr,hc,hv,hno,o',h1,h2,hQ⟩:=q8f hend
 rw[z5b] at he
 refine⟨k,v,h.set s o',clk, ?_,hQ⟩
 have hreach:reach h (h.length + 1) [] [s]=[s]:=by
  simp only[reach,List.contains_nil,Bool.false_eq_true,if_false,hs,Option.map_some,hoi,Option.getD_some,List.nil_append]
  cases h.length <;> rfl
 have hfr:(freezeAll s1.h (z1l vs).obs)[s]? =some o':=by
  rw[q3d (by simpa [x3c] using hno),h1]
 have hm:z0r [s] 0 h (freezeAll s1.h (z1l vs).obs)=h.set s o':=by
  have:=q9v (s:=s) (h:=h) (h':=freezeAll s1.h (z1l vs).obs) (k:=0) hlt hfr
  rw[Nat.zero_add] at this
  exact this
 unfold z5f z0q
 simp only[hext,hfn,hp,hl,freezeAll,hids,hreach,he,ho,Bool.false_eq_true,if_false,hr,hc,List.isEmpty_cons,Bool.and_false,hm]
 have hall:((v.ids++(List.map (fun i=>(Option.map AObj.ids (freezeAll s1.h (z1l vs).obs)[i]?).getD []) [s]).flatten).all fun x=>decide (x < h.length))=true:=by
  simp[hv,hfr,h2]
 cases e with
 | exit i=>exact absurd rfl (hne i)
 | norm=>simp only[hall,if_true]
 | ret=>simp only[hall,if_true]
section
variable {h:List AObj} {base g:Nat} {ts:Tmps}
def k0v (h:List AObj):AV→AV→AV→Option (AV×List AObj)
 | .bool t,a,b=>some (if t then a else b,h)
 | _,_,_=>none
def v7n (h:List AObj) (slot g:Nat) (v:AV):Option (AV×List AObj):=
 if v.cells.isEmpty || !v.def? then none else some (.ptr slot g 0 0,h.set slot (.blk g [v] false false 0))
def z8j (h:List AObj) (sz:Option Nat):AV→Option (AV×List AObj)
 | .ptr s g i o=>match z1s h s g with
   | some (es,_,_,_)=>(es[i]?).bind fun e=>(z2f e.cells o sz).map (·,h)
   | none=>none
 | .iptr cs o=>(z2f cs o sz).map (·,h)
 | _=>none
def z4y (h:List AObj) (sz:Nat) (v:AV):AV→Option (AV×List AObj)
 | .ptr s g i o=>match z1s h s g with
   | some (es,row,grow,fz)=>
     match es[i]?,(if row then pub h v else some (v,h)) with
     | some e,some (v',h')=>
       if v'.def? =true∧v'.cells.length=sz∧v'.cells.all AV.one=true∧(row=true→fz≤i∧ !(v.obs.map (·.1)).contains s) then
        (z8a e.cells o v'.cells).map fun cs=>(.undef,h'.set s (.blk g (es.set i (z7q e cs)) row grow fz))
       else none
     | _,_=>none
   | none=>none
 | _=>none
def k0w (h:List AObj) (o:Nat):AV→Option (AV×List AObj)
 | .ptr s g i p=>some (.ptr s g i (p + o),h)
 | .iptr cs p=>some (.iptr cs (p + o),h)
 | _=>none
def k6q (h:List AObj):AV→Option (AV×List AObj)
 | .ptr s g i o=>some (.ptr s g i o,h)
 | .iptr cs o=>some (.iptr cs o,h)
 | _=>none
def y8d (h:List AObj) (i:Nat):AV→Option (AV×List AObj)
 | .tup cs=>(cs[i]?).map (·,h)
 | _=>none
def z6w (h:List AObj) (op:BinOp) (t:ETy) (x y:AV):Option (AV×List AObj):=(z4k op t x y).map (·,h)
def v7o (h:List AObj) (t:LenTy) (x:AV):Option (AV×List AObj):=(z9y h t x).map (·,h)
def unV (h:List AObj) (op:UnOp) (x:AV):Option (AV×List AObj):=(k5m op x).map (·,h)
def v7p (h:List AObj) (k:IntKind):AV→Option (AV×List AObj)
 | .int _ n=>some (.int k (k.wrap n),h)
 | _=>none
def z1n (h:List AObj) (esz:Nat):AV→AV→Option (AV×List AObj)
 | .sl xs _, .int _ i=>if 0≤i then match xs[i.toNat]? with
   | some e=>if e.cells.length=esz then some (.iptr e.cells 0,h) else none
   | none=>none
   else none
 | .ob s g off len, .int _ i=>if 0≤i then match z1s h s g with
   | some (es,true,_,_)=>match es[off + i.toNat]? with
     | some e=>if i.toNat < len∧e.cells.length=esz then some (.ptr s g (off + i.toNat) 0,h) else none
     | none=>none
   | _=>none
   else none
 | _,_=>none
def q5i (h:List AObj):AV→AV→Option (AV×List AObj)
 | .str s, .int _ i=>if 0≤i then (s[i.toNat]?).map fun (b:Nat)=>(.int .u8 (Int.ofNat b),h) else none
 | _,_=>none
theorem v2f {c a b:AOpd}:prim h base g ts (.pick c a b)=k0v h (c.ev ts) (a.ev ts) (b.ev ts):=by
 simp only[prim]
 cases c.ev ts <;> simp only[k0v]
 rename_i t
 cases t <;> rfl
theorem v7q {k:Nat} {z:AV}:prim h base g ts (.alloc k z)=v7n h (base + k) g z:=(rfl)
theorem y8x {k:Nat} {x:AOpd}:prim h base g ts (.box k x)=v7n h (base + k) g (x.ev ts):=(rfl)
theorem v7r {z:List AV} {ps:List (Nat×Nat×AOpd)}:prim h base g ts (.build z ps)=(z6e z (ps.map fun p=>(p.1,p.2.1,p.2.2.ev ts))).map fun cs=>(.agg cs,h):=(rfl)
theorem w5b {sz:Option Nat} {a:AOpd}:prim h base g ts (.load sz a)=z8j h sz (a.ev ts):=by
 simp only[prim];cases a.ev ts <;> rfl
theorem v7s {sz:Nat} {a x:AOpd}:prim h base g ts (.store sz a x)=z4y h sz (x.ev ts) (a.ev ts):=by
 simp only[prim];cases a.ev ts <;> rfl
theorem j7j {x:AOpd}:prim h base g ts (.nilCheck x)=k6q h (x.ev ts):=by
 simp only[prim];cases x.ev ts <;> rfl
theorem v7t {op:BinOp} {t:ETy} {x y:AOpd}:prim h base g ts (.binOp op t x y)=z6w h op t (x.ev ts) (y.ev ts):=(rfl)
theorem w5c {op:UnOp} {x:AOpd}:prim h base g ts (.unOp op x)=unV h op (x.ev ts):=(rfl)
theorem w5d {k:IntKind} {x:AOpd}:prim h base g ts (.cInt k x)=v7p h k (x.ev ts):=by
 simp only[prim];cases x.ev ts <;> rfl
theorem j1f {x:AOpd} {o:Nat}:prim h base g ts (.fieldAddr x o)=k0w h o (x.ev ts):=by
 simp only[prim];cases x.ev ts <;> rfl
theorem q9w {esz:Nat} {x ix:AOpd}:prim h base g ts (.indexAddr none esz x ix)=z1n h esz (x.ev ts) (ix.ev ts):=by
 simp only[prim];cases ix.ev ts <;> cases x.ev ts <;> simp only[z1n] <;> split <;> rfl
theorem k6r {x ix:AOpd}:prim h base g ts (.index none x ix)=q5i h (x.ev ts) (ix.ev ts):=by
 simp only[prim];cases ix.ev ts <;> cases x.ev ts <;> simp only[q5i] <;> split <;> rfl
theorem j7k {f:Nat} {cap:List AOpd}:prim h base g ts (.makeFunc f cap)=some (.fn f (cap.map (·.ev ts)),h):=(rfl)
theorem k0x {x:AOpd} {i:Nat}:prim h base g ts (.extract x i)=y8d h i (x.ev ts):=by
 simp only[prim];cases x.ev ts <;> rfl
theorem y8y {t:LenTy} {x:AOpd}:prim h base g ts (.len t x)=v7o h t (x.ev ts):=(rfl)
theorem k6s {k esz b:Nat} {mu:Bool} {x y:AOpd}:prim h base g ts (.append k esz b mu x y)=z0n h (base + k) g esz b mu (x.ev ts) (y.ev ts):=(rfl)
theorem k0y {k:Nat}:prim h base g ts (.makeMap k)=some (.mp (base + k) g,h.set (base + k) (.map g [])):=(rfl)
def PP (Γ:AProg) (base:Nat) (x:Option (AV×List AObj)) (dst:Option Nat) (g:Nat) (os:List AOper) (ts:Tmps) (clk:Nat) (ks:List Kf) (Q:Post):Prop:=
 match x with
 | some (v,h')=>O Γ base .plain (g + 1) os ⟨z8c ts dst v,h',clk⟩ ks Q
 | none=>False
section
variable {clk:Nat} {ks:List Kf} {Q:Post} {os:List AOper} {dst:Option Nat} {m:Md}
theorem q4a {v:AV} {d:Nat}:PP Γ base (some (v,h)) (some d) g os ts clk ks Q=O Γ base .plain (g + 1) os ⟨upd ts d v,h,clk⟩ ks Q:=(rfl)
theorem v7u {v:AV}:PP Γ base (some (v,h)) none g os ts clk ks Q=O Γ base .plain (g + 1) os ⟨ts,h,clk⟩ ks Q:=(rfl)
theorem q4b {op:AOp} (hop:op.isCall=false):O Γ base .plain g (⟨dst,op,none⟩::os) ⟨ts,h,clk⟩ ks Q=PP Γ base (prim h base g ts op) dst g os ts clk ks Q:=z6v hop
theorem v2g {x:AOpd} {d:Nat}:O Γ base .plain g (⟨some d, .move x,none⟩::os) ⟨ts,h,clk⟩ ks Q=O Γ base .plain (g + 1) os ⟨upd ts d (x.ev ts),h,clk⟩ ks Q:=z6v rfl
theorem w5e {c a b:AOpd}:O Γ base .plain g (⟨dst,(.pick c a b),none⟩::os) ⟨ts,h,clk⟩ ks Q=PP Γ base (k0v h (c.ev ts) (a.ev ts) (b.ev ts)) dst g os ts clk ks Q:=by rw[q4b rfl,v2f]
theorem v7v {k:Nat} {z:AV}:O Γ base .plain g (⟨dst,(.alloc k z),none⟩::os) ⟨ts,h,clk⟩ ks Q=PP Γ base (v7n h (base + k) g z) dst g os ts clk ks Q:=by rw[q4b rfl,v7q]
theorem y8z {k:Nat} {x:AOpd}:O Γ base .plain g (⟨dst,(.box k x),none⟩::os) ⟨ts,h,clk⟩ ks Q=PP Γ base (v7n h (base + k) g (x.ev ts)) dst g os ts clk ks Q:=by rw[q4b rfl,y8x]
theorem v7w {z:List AV} {ps:List (Nat×Nat×AOpd)}:O Γ base .plain g (⟨dst,(.build z ps),none⟩::os) ⟨ts,h,clk⟩ ks Q=PP Γ base ((z6e z (ps.map fun p=>(p.1,p.2.1,p.2.2.ev ts))).map fun cs=>(.agg cs,h)) dst g os ts clk ks Q:=by rw[q4b rfl,v7r]
theorem w5f {sz:Option Nat} {a:AOpd}:O Γ base .plain g (⟨dst,(.load sz a),none⟩::os) ⟨ts,h,clk⟩ ks Q=PP Γ base (z8j h sz (a.ev ts)) dst g os ts clk ks Q:=by rw[q4b rfl,w5b]
theorem v7x {sz:Nat} {a x:AOpd}:O Γ base .plain g (⟨dst,(.store sz a x),none⟩::os) ⟨ts,h,clk⟩ ks Q=PP Γ base (z4y h sz (x.ev ts) (a.ev ts)) dst g os ts clk ks Q:=by rw[q4b rfl,v7s]
theorem j7l {x:AOpd}:O Γ base .plain g (⟨dst,(.nilCheck x),none⟩::os) ⟨ts,h,clk⟩ ks Q=PP Γ base (k6q h (x.ev ts)) dst g os ts clk ks Q:=by rw[q4b rfl,j7j]
theorem k0z {op:BinOp} {t:ETy} {x y:AOpd}:O Γ base .plain g (⟨dst,(.binOp op t x y),none⟩::os) ⟨ts,h,clk⟩ ks Q=PP Γ base (z6w h op t (x.ev ts) (y.ev ts)) dst g os ts clk ks Q:=by rw[q4b rfl,v7t]
theorem w5g {op:UnOp} {x:AOpd}:O Γ base .plain g (⟨dst,(.unOp op x),none⟩::os) ⟨ts,h,clk⟩ ks Q=PP Γ base (unV h op (x.ev ts)) dst g os ts clk ks Q:=by rw[q4b rfl,w5c]
theorem w5h {k:IntKind} {x:AOpd}:O Γ base .plain g (⟨dst,(.cInt k x),none⟩::os) ⟨ts,h,clk⟩ ks Q=PP Γ base (v7p h k (x.ev ts)) dst g os ts clk ks Q:=by rw[q4b rfl,w5d]
theorem j1g {x:AOpd} {o:Nat}:O Γ base .plain g (⟨dst,(.fieldAddr x o),none⟩::os) ⟨ts,h,clk⟩ ks Q=PP Γ base (k0w h o (x.ev ts)) dst g os ts clk ks Q:=by rw[q4b rfl,j1f]
theorem j1h {esz:Nat} {x ix:AOpd}:O Γ base .plain g (⟨dst,(.indexAddr none esz x ix),none⟩::os) ⟨ts,h,clk⟩ ks Q=PP Γ base (z1n h esz (x.ev ts) (ix.ev ts)) dst g os ts clk ks Q:=by rw[q4b rfl,q9w]
theorem k6t {x ix:AOpd}:O Γ base .plain g (⟨dst,(.index none x ix),none⟩::os) ⟨ts,h,clk⟩ ks Q=PP Γ base (q5i h (x.ev ts) (ix.ev ts)) dst g os ts clk ks Q:=by rw[q4b rfl,k6r]
theorem j7m {f:Nat} {cap:List AOpd}:O Γ base .plain g (⟨dst,(.makeFunc f cap),none⟩::os) ⟨ts,h,clk⟩ ks Q=PP Γ base (some (.fn f (cap.map (·.ev ts)),h)) dst g os ts clk ks Q:=by rw[q4b rfl,j7k]
theorem k1a {x:AOpd} {i:Nat}:O Γ base .plain g (⟨dst,(.extract x i),none⟩::os) ⟨ts,h,clk⟩ ks Q=PP Γ base (y8d h i (x.ev ts)) dst g os ts clk ks Q:=by rw[q4b rfl,k0x]
theorem y9a {t:LenTy} {x:AOpd}:O Γ base .plain g (⟨dst,(.len t x),none⟩::os) ⟨ts,h,clk⟩ ks Q=PP Γ base (v7o h t (x.ev ts)) dst g os ts clk ks Q:=by rw[q4b rfl,y8y]
theorem k6u {k esz b:Nat} {mu:Bool} {x y:AOpd}:O Γ base .plain g (⟨dst,(.append k esz b mu x y),none⟩::os) ⟨ts,h,clk⟩ ks Q=PP Γ base (z0n h (base + k) g esz b mu (x.ev ts) (y.ev ts)) dst g os ts clk ks Q:=by rw[q4b rfl,k6s]
theorem k1b {k:Nat}:O Γ base .plain g (⟨dst,(.makeMap k),none⟩::os) ⟨ts,h,clk⟩ ks Q=PP Γ base (some (.mp (base + k) g,h.set (base + k) (.map g []))) dst g os ts clk ks Q:=by rw[q4b rfl,k0y]
end
theorem j7n {t:Bool} {a b:AV}:k0v h (.bool t) a b=some (if t then a else b,h):=(rfl)
theorem j7o {sz:Option Nat} {cs:List AV} {o:Nat}:z8j h sz (.iptr cs o)=(z2f cs o sz).map (·,h):=(rfl)
theorem q9x {sz:Option Nat} {s q i o:Nat}:z8j h sz (.ptr s q i o)=match z1s h s q with
 | some (es,_,_,_)=>(es[i]?).bind fun e=>(z2f e.cells o sz).map (·,h)
 | none=>none:=rfl
theorem k1c {s q i o:Nat}:k6q h (.ptr s q i o)=some (.ptr s q i o,h):=(rfl)
theorem k1d {s q i p o:Nat}:k0w h o (.ptr s q i p)=some (.ptr s q i (p + o),h):=(rfl)
theorem j7p {cs:List AV} {p o:Nat}:k0w h o (.iptr cs p)=some (.iptr cs (p + o),h):=(rfl)
theorem k6v {i:Nat} {cs:List AV}:y8d h i (.tup cs)=(cs[i]?).map (·,h):=(rfl)
theorem k1e {k j:IntKind} {n:Int}:v7p h k (.int j n)=some (.int k (k.wrap n),h):=(rfl)
theorem v7y {xs:List AV} {t:Tip}:v7o h .sl (.sl xs t)=some (.int .i64 xs.length,h):=(rfl)
theorem k6w {s:List Nat}:v7o h .str (.str s)=some (.int .i64 s.length,h):=(rfl)
theorem v7z {s q o l:Nat}:v7o h .sl (.ob s q o l)=some (.int .i64 l,h):=(rfl)
theorem v8a {b:Bool}:unV h .not (.bool b)=some (.bool (!b),h):=(rfl)
theorem v8b {k:IntKind} {n:Int}:unV h .neg (.int k n)=some (.int k (k.wrap (0 - n)),h):=(rfl)
section
variable {t:ETy} {k:IntKind} {a b:Int}
theorem v2h:z6w h .add t (.int k a) (.int k b)=some (.int k (k.wrap (a + b)),h):=by simp[z6w,z4k,z8b]
theorem w5i:z6w h .sub t (.int k a) (.int k b)=some (.int k (k.wrap (a - b)),h):=by simp[z6w,z4k,z8b]
theorem w5j:z6w h .mul t (.int k a) (.int k b)=some (.int k (k.wrap (a * b)),h):=by simp[z6w,z4k,z8b]
theorem x3d (hb:b≠0):z6w h .quo t (.int k a) (.int k b)=some (.int k (k.wrap (a.tdiv b)),h):=by simp[z6w,z4k,z8b,hb]
theorem q7m (hb:b≠0):z6w h .rem t (.int k a) (.int k b)=some (.int k (a.tmod b),h):=by simp[z6w,z4k,z8b,hb]
theorem w5k:z6w h .eql t (.int k a) (.int k b)=some (.bool (decide (a=b)),h):=by simp[z6w,z4k,z8b]
theorem v2i:z6w h .neq t (.int k a) (.int k b)=some (.bool (!decide (a=b)),h):=by simp[z6w,z4k,z8b]
theorem w5l:z6w h .lss t (.int k a) (.int k b)=some (.bool (decide (a < b)),h):=by simp[z6w,z4k,z8b]
theorem w5m:z6w h .leq t (.int k a) (.int k b)=some (.bool (decide (a≤b)),h):=by simp[z6w,z4k,z8b]
theorem w5n:z6w h .gtr t (.int k a) (.int k b)=some (.bool (decide (b < a)),h):=by simp[z6w,z4k,z8b]
theorem w5o:z6w h .geq t (.int k a) (.int k b)=some (.bool (decide (b≤a)),h):=by simp[z6w,z4k,z8b]
end
section
variable {t:ETy} {a b:List Nat}
theorem w5p:z6w h .eql t (.str a) (.str b)=some (.bool (decide (a=b)),h):=by simp[z6w,z4k,q4q]
theorem w5q:z6w h .neq t (.str a) (.str b)=some (.bool (!decide (a=b)),h):=by simp[z6w,z4k,q4q]
theorem w5r:z6w h .lss t (.str a) (.str b)=some (.bool (z4p a b),h):=by simp[z6w,z4k,q4q]
theorem q7n (hl:a.length + b.length < 2 ^ 60):z6w h .add t (.str a) (.str b)=some (.str (a++b),h):=by
 simp only[z6w,z4k,q4q,if_pos hl,Option.map_some]
end
theorem w5s {a b:Bool}:z6w h .neq (.one .bool) (.bool a) (.bool b)=some (.bool (!(a==b)),h):=by simp[z6w,z4k,AV.eqv,AV.eq1]
theorem z5p {xs:List AV} {t:Tip} {esz i:Nat} {k:IntKind} {e:AV} (hx:xs[i]? =some e) (he:e.cells.length=esz):z1n h esz (.sl xs t) (.int k (i:Int))=some (.iptr e.cells 0,h):=by
 simp only[z1n,Int.natCast_nonneg,if_true,Int.toNat_natCast,hx,he]
theorem x8o {s:List Nat} {i b:Nat} {k:IntKind} (hx:s[i]? =some b):q5i h (.str s) (.int k (i:Int))=some (.int .u8 (b:Int),h):=by
 simp only[q5i,Int.natCast_nonneg,if_true,Int.toNat_natCast,hx,Option.map_some]
 rfl
end
end
theorem z0c {ts:Tmps} {d j:Nat} {v:AV}:upd ts d v j=bif j==d then v else ts j:=by
 unfold upd
 by_cases h:j=d
 ·subst h;simp
 ·have:(j==d)=false:=by simpa using h
  rw[if_neg h,this];rfl
theorem v2j {ts:Tmps} {t:Nat}:(AOpd.tmp t).ev ts=ts t:=(rfl)
theorem j3s {ts:Tmps} {v:AV}:(AOpd.const v).ev ts=v:=(rfl)
theorem z3l {a:AV} {az:List AV}:z9z (a::az) 0=a:=(rfl)
theorem z7l {a:AV} {az:List AV} {n:Nat}:z9z (a::az) (n + 1)=z9z az n:=(rfl)
theorem v8c {h:List AObj} {ts:Tmps}:z1z h ts []=some []:=(rfl)
def w5t (v:AV):Option (List AV)→Option (List AV)
 | some vs=>some (v::vs)
 | none=>none
theorem j7q {v:AV} {vs:List AV}:w5t v (some vs)=some (v::vs):=(rfl)
theorem k1f {h:List AObj} {ts:Tmps} {t:Nat} {rs:List ARes}:z1z h ts (.tmp t::rs)=w5t (ts t) (z1z h ts rs):=by
 simp only[z1z];cases z1z h ts rs <;> rfl
theorem k6x {b:Bool}:(b==true)=b:=by cases b <;> rfl
theorem k1g {b:Bool}:(b==false)= !b:=by cases b <;> rfl
theorem z0f {n:Int} (h1: -9223372036854775808≤n) (h2:n≤9223372036854775807):IntKind.i64.wrap n=n:=IntWalk.i64_in _ ⟨h1,h2⟩
theorem x8p {a d:AV} {l:List AV}:(a::l).getD 0 d=a:=(rfl)
theorem q5j {k:IntKind} {n:Int}:(AV.int k n).cells=[(AV.int k n)]:=(rfl)
theorem k1h {k:IntKind} {n:Int}:(AV.int k n).def? =true:=(rfl)
theorem j1i {k:IntKind} {n:Int}:(AV.int k n).one=true:=(rfl)
theorem x3e {k:IntKind} {n:Int} {cs:List AV}:z7q (AV.int k n) cs=cs.getD 0 .undef:=(rfl)
theorem j7r {b:Bool}:(AV.bool b).cells=[(AV.bool b)]:=(rfl)
theorem k6y {b:Bool}:(AV.bool b).def? =true:=(rfl)
theorem j3t {b:Bool}:(AV.bool b).one=true:=(rfl)
theorem k1i {s:List Nat}:(AV.str s).cells=[(AV.str s)]:=(rfl)
theorem v8d {s:List Nat}:(AV.str s).def? =true:=(rfl)
theorem q9y {s:List Nat}:(AV.str s).one=true:=(rfl)
theorem z3m {xs:List AV} {t:Tip}:(AV.sl xs t).cells=[(AV.sl xs t)]:=(rfl)
theorem w5u {xs:List AV} {t:Tip}:(AV.sl xs t).def? =true:=(rfl)
theorem x8q {xs:List AV} {t:Tip}:(AV.sl xs t).one=true:=(rfl)
theorem k1j {xs:List AV} {t:Tip} {cs:List AV}:z7q (AV.sl xs t) cs=cs.getD 0 .undef:=(rfl)
theorem k6z {a b c d:Nat}:(AV.ob a b c d).cells=[(AV.ob a b c d)]:=(rfl)
theorem w5v {a b c d:Nat}:(AV.ob a b c d).def? =true:=(rfl)
theorem j3u {a b c d:Nat}:(AV.ob a b c d).one=true:=(rfl)
theorem k1k {a b c d:Nat}:(AV.ptr a b c d).cells=[(AV.ptr a b c d)]:=(rfl)
theorem v8e {a b c d:Nat}:(AV.ptr a b c d).def? =true:=(rfl)
theorem v8f {a b c d:Nat}:(AV.ptr a b c d).one=true:=(rfl)
theorem x8r:(AV.nilptr).cells=[(AV.nilptr)]:=(rfl)
theorem j7s:(AV.nilptr).def? =true:=(rfl)
theorem x4x {cs:List AV}:z7q (AV.nilptr) cs=cs.getD 0 .undef:=(rfl)
theorem k7a {a b:Nat}:(AV.mp a b).cells=[(AV.mp a b)]:=(rfl)
theorem w5w {a b:Nat}:(AV.mp a b).def? =true:=(rfl)
theorem w5x {a b:Nat}:(AV.mp a b).one=true:=(rfl)
theorem x8s:(AV.nilmap).cells=[(AV.nilmap)]:=(rfl)
theorem j7t:(AV.nilmap).def? =true:=(rfl)
theorem x4y {cs:List AV}:z7q (AV.nilmap) cs=cs.getD 0 .undef:=(rfl)
theorem k1l {cs:List AV}:(AV.agg cs).cells=cs:=(rfl)
theorem v8g {cs:List AV}:(AV.agg cs).def? =true:=(rfl)
theorem j7u {xs cs:List AV}:z7q (.agg xs) cs= .agg cs:=(rfl)
attribute [go_sem] q5j k1h j1i x3e j7r k6y j3t k1i v8d q9y z3m w5u x8q k1j k6z w5v j3u k1k v8e v8f x8r j7s x4x k7a w5w w5x x8s j7t x4y k1l v8g j7u
theorem x8t {f:List Nat×List Nat}:Md.plain.add f= .plain:=(rfl)
theorem k7b {N:Nat} {ops:List AOper} {ps:List (Nat×Nat)} {fs:List (List Nat×List Nat)} {f:List Nat×List Nat}:(Md.draw N ops ps fs).add f= .draw N ops ps (fs++[f]):=(rfl)
attribute [go_sem] x8t k7b v7g v7h q6g x8l j7h x8m k0s j1d x2z x3a x8n v7i k6l w4x k6m q9t v7l v7j w4y v7k k6n w4z v7m y8w q4a v7u v2g w5e v7v y8z v7w w5f v7x j7l k0z w5g w5h j1g j1h k6t j7m k1a y9a k6u k1b z0c cond_true cond_false v2j j3s z3l z7l v8c j7q k1f k6x k1g k6p k0u List.map_cons List.map_nil Option.map_some Option.map_none Option.bind_some Option.bind_none if_true if_false j7n j7o q9x k1c k1d j7p k6v k1e v7y k6w v7z v8a v8b v2h w5i w5j w5k v2i w5l w5m w5n w5o w5p w5q w5r w5s z8c
attribute [go_sem_proc] z0 z1 z2 z3 reduceCtorEq
attribute [go_sem_proc ↓] reduceIte
end
end Go.Proofs.YtdfepmffiampgaaGreatDoor.Am
namespace Go.Proofs.YtdfepmffiampgaaGreatDoor
open Go Go.RowKit
namespace Am
set_option maxRecDepth 100000
noncomputable def j7v:AProg where
 fn f:=cFun Tryz.prog x4l {byref:=[0]} (real f)
 ext _:=none
 iters:=[]
theorem y9b:ProgOk Tryz.prog x4l j7v:=⟨fun f af h=>⟨_,h⟩,fun f sem h=>by cases h⟩
theorem k1m:q1p Tryz.prog x4l:=by
 intro f k hk G I w x cx hr hx himm
 unfold x4l at hk
 split at hk
 ·rename_i hf
  injection hk with hk
  subst hf;subst hk
  exact k0q hr hx himm
 ·cases hk
theorem y9c:q0y Tryz.prog j7v:=fun k hk=>by simp[j7v] at hk
def z8x (z:AV) (esz b:Nat):AFun:=
 {ntmps:=8,nslots:=2,results:=[.tmp 2],byref:=[0],owned:=false,
  body:=(.seq (.region 1 [⟨(some 2), .move (.const (.sl [] .nil)),none⟩] []) (.seq (.seq (.region 2 [⟨(some 3), .move (.tmp 0),none⟩,⟨(some 4), .binOp .eql .sl (.tmp 3) (.const (.sl [] .nil)),none⟩] []) (.cond (.tmp 4) (.seq (.region 1 [⟨(some 2), .move (.const (.sl [] .nil)),none⟩] []) .ret) .skip)) (.seq (.region 4 [⟨(some 5), .buildSlice 0 false z 0 [],none⟩,⟨(some 6), .move (.tmp 0),none⟩,⟨(some 7), .append 1 esz b false (.tmp 5) (.tmp 6),none⟩,⟨(some 2), .move (.tmp 7),none⟩] []) .ret)))}
theorem y9d:j7v.fn 102=some (z8x (.int .i64 0) 1 8):=by kernel_rfl
theorem y9e:j7v.fn 66=some (z8x (.agg [(.str []),(.int .i64 0)]) 2 24):=by kernel_rfl
theorem y9f:j7v.fn 67=some (z8x (.agg [(.int .i64 0),(.int .i64 0),(.str []),(.str []),(.int .i64 0)]) 5 56):=by kernel_rfl
theorem y9g {base g k clk:Nat} {ts:Tmps} {h:List AObj} {z:AV} {dst:Nat} {os:List AOper} {ks:List Kf} {Q:Post} (hz:z.def? =true):O j7v base .plain g (⟨some dst, .buildSlice k false z 0 [],none⟩::os) ⟨ts,h,clk⟩ ks Q=O j7v base .plain (g + 1) os ⟨upd ts dst (.sl [] .full),h,clk⟩ ks Q:=by
 rw[q4b rfl]
 have:prim h base g ts (.buildSlice k false z 0 [])=some (.sl [] .full,h):=by
  simp only[prim,hz,Bool.not_true,Bool.false_eq_true,if_false,List.map_nil,z7h,z3y,freezeAll]
  rfl
 rw[this]
 rfl
theorem k7c {f esz b:Nat} {z:AV} {xs:List AV} (hf:j7v.fn f=some (z8x z esz b)) (hz:z.def? =true) (h1:z0o esz xs=true) (h3:idsL xs=[]) (h2:xs.length * (b + 1)≤2 ^ 46):∃ k,z5f j7v k f [.sl xs .nn] [] 0=some (.sl xs .no,[],0):=by
 have hext:j7v.ext f=none:=rfl
 have heq:∀ h,z6w h .eql .sl (.sl xs .nn) (.sl [] .nil)=some (.bool false,h):=fun h=>by cases xs <;> rfl
 have hgt:¬ (([]:List AV).length + xs.length) * (b + 1) > z1c:=by unfold z1c;simp;omega
 have happ:∀ h s g,z0n h s g esz b false (.sl [] .full) (.sl xs .nn)=some (.sl xs (.at s g),h.set s (.tip g esz)):=fun h s g=>by
  have ha:z0o esz []=true:=rfl
  unfold z0n
  simp only[z4e,h1,ha,Bool.not_true,Bool.false_eq_true,if_false,decide_eq_true_eq,hgt,Bool.or_false,List.nil_append]
 have hp:z1d [] [0] 0 [.sl xs .nn]=some [.sl xs .nn]:=by simp[z1d]
 have hl:z0p [0] 0 [.sl xs .nn]=[]:=by simp[z0p]
 have hids:idsL [.sl xs .nn]=[]:=by simp[idsL,AV.ids,h3]
 have hK:K j7v 0 (z8x z esz b).body [] ⟨z9z [.sl xs .nn],[.dead, .dead],0⟩ (fun e s=>e= .ret∧∃ g,s.ts 2= .sl xs (.at 1 g)):=by
  simp only[go_sem,z8x,heq,y9g hz,happ,Nat.zero_add]
  exact⟨trivial,_,rfl⟩
 obtain⟨k,e,s,he,rfl,g,hs2⟩:=hK
 refine⟨k, ?_⟩
 unfold z5f z0q
 have hrep:maskFrom [] 0 ([]:List AObj)++List.replicate (z8x z esz b).nslots .dead=[.dead, .dead]:=rfl
 simp only[hext,hf,show (z8x z esz b).byref=[0] from rfl,hp,hl,hids,reach,freezeAll,List.length_nil,hrep,he,show (z8x z esz b).results=[.tmp 2] from rfl,z1z,Option.map_some,hs2,z1l,show (z8x z esz b).owned=false from rfl,Bool.false_eq_true,if_false,conv]
 have hobs:(AV.sl xs (.at 1 g)).obs=[]:=rfl
 simp[hobs,freezeAll,AV.ids,h3]
 cases s.h <;> rfl
theorem q6h {f esz b:Nat} {z:AV} {fn:Func} {c:Code} (hfn:j7v.fn f=some (z8x z esz b)) (hz:z.def? =true)
  (hnil:∀ n c w,Calls Tryz.prog f #[.slice none n c] w fun e w'=>e= .returned (.slice none 0 0)∧w'=w) (hf:Tryz.prog.funcs[f]? =some fn) (hb:fn.body=some c) (hn:fn.name≠ "runtime.NumGoroutine") (hr:real f=f):told Tryz.prog f (z5o esz b):=by
 intro az v hv G I w cargs hargs himm _
 rw[hr]
 obtain⟨xs,t,rfl⟩:∃ xs t,az=[.sl xs t]:=by
  unfold z5o at hv
  split at hv
  ·exact⟨_,_,rfl⟩
  ·cases hv
 simp only[z5o] at hv
 split at hv
 ·rename_i hc
  injection hv with hv
  subst hv
  obtain⟨h1,h3,h2⟩:=hc
  rw[List.isEmpty_iff] at h3
  simp only[VRL] at hargs
  obtain⟨cv,ws,hcv,hx,rfl⟩:=hargs
  obtain rfl:cargs= #[cv]:=by
   cases cargs
   simp_all
  simp only[VR] at hx
  obtain⟨A,n,cc,rfl,hlen,hnc,_,hrow⟩:=hx
  cases A with
  | none=>
    intro o a next Q hnx
    rw[z6g hf hb hn,Oper.upon_enter]
    refine (hnil n cc w).mono ?_
    rintro e w' ⟨rfl,rfl⟩
    refine hnx _ _ ⟨I,ILe.refl _, ?_,fun _ _ h=>h,rfl,rfl,rfl,Nat.le_refl _,fun _ _ _ h=> .inl h⟩
    have hn0:n=0:=by
     rcases hrow with h | ⟨_,_,_,h,_⟩
     ·exact h
     ·cases h
    have:xs=[]:=List.length_eq_zero_iff.1 (by omega)
    subst this
    simp only[VR]
    exact⟨none,0,0,rfl,rfl,Nat.le_refl _,trivial, .inl rfl⟩
  | some A=>
    have hargs0:VRL (fun _=>none) I [.sl xs .nn] [Value.slice (some A) n cc]:=by
     refine VRL.keep (n:=0) (G:=G) q3c (by simp[idsL,AV.ids,h3]) ?_
     simp only[VRL,VR]
     exact⟨_,_,rfl,⟨_,_,_,rfl,hlen,hnc,by simp[TipR],hrow⟩,rfl⟩
    obtain⟨k,hk⟩:=k7c hfn hz h1 h3 h2
    intro o a next Q hnx
    have hsc:=q6e y9b k1m (j1b (by kernel_rfl)) y9c k f [.sl xs .nn] [] 0 _ _ _ hk (fun _=>none) I w #[Value.slice (some A) n cc] hargs0 ⟨himm,fun i o ho=>by simp at ho,fun i j oi oj b hi=>by simp at hi⟩ (fun _ _=>rfl)
    rw[hr] at hsc
    refine hsc o a next Q fun cv w' he=>hnx cv w' ?_
    obtain⟨G',I',hv',hran,_⟩:=he
    refine⟨I',hran.ile,VR.keep (n:=0) q3c (by simp[AV.ids,h3]) hv',fun b y hy=> ?_,hran.fr.os,hran.fr.tape,hran.fr.output,hran.fr.size,fun b o v hv=> ?_⟩
    ·have hb:b < w.heap.size:=(Array.getElem?_eq_some_iff.1 hy).1
     rw[hran.fr.kept b hb fun i o hi=>by simp at hi]
     exact hy
    ·rcases Nat.lt_or_ge b w.heap.size with hb | hb
     ·exact .inl (hran.ifr b hb (fun i o hi=>by simp at hi) o v hv)
     ·exact .inr ⟨hb,hran.rel.imm b o v hv⟩
 ·cases hv
theorem k7d (n c:Nat) (w:World):(binOp BinOp.eql 22 (Value.slice none n c) (Value.slice none 0 0)).run Tryz.prog w= .ok (.bool true) w:=by
 rfl
theorem k7e (n c:Nat) (w:World):(binOp BinOp.eql 51 (Value.slice none n c) (Value.slice none 0 0)).run Tryz.prog w= .ok (.bool true) w:=by
 rfl
theorem k7f (n c:Nat) (w:World):(binOp BinOp.eql 53 (Value.slice none n c) (Value.slice none 0 0)).run Tryz.prog w= .ok (.bool true) w:=by
 rfl
theorem y9h (n c:Nat) (w:World):Calls Tryz.prog 102 #[.slice none n c] w fun e w'=>e= .returned (.slice none 0 0)∧w'=w:=by
 go_enter Tryz.func102,Tryz.ntmps102
 go_wp2
 rw[k7d]
 go_wp2
 go_ret
 exact⟨rfl,rfl⟩
theorem y9i (n c:Nat) (w:World):Calls Tryz.prog 66 #[.slice none n c] w fun e w'=>e= .returned (.slice none 0 0)∧w'=w:=by
 go_enter Tryz.func66,Tryz.ntmps66
 go_wp2
 rw[k7e]
 go_wp2
 go_ret
 exact⟨rfl,rfl⟩
theorem y9j (n c:Nat) (w:World):Calls Tryz.prog 67 #[.slice none n c] w fun e w'=>e= .returned (.slice none 0 0)∧w'=w:=by
 go_enter Tryz.func67,Tryz.ntmps67
 go_wp2
 rw[k7f]
 go_wp2
 go_ret
 exact⟨rfl,rfl⟩
theorem w5y:told Tryz.prog 102 (z5o 1 8):=q6h y9d rfl y9h Tryz.func102 rfl (by decide) rfl
theorem w5z:told Tryz.prog 66 (z5o 2 24):=q6h y9e rfl y9i Tryz.func66 rfl (by decide) rfl
theorem w6a:told Tryz.prog 67 (z5o 5 56):=q6h y9f rfl y9j Tryz.func67 rfl (by decide) rfl
theorem y9k {a c:Nat} (ha:a < 256) (hc:c < 256):(UInt8.ofNat a==c.toUInt8)=decide ((a:Int)=(c:Int)):=by
 rw[Bool.eq_iff_iff,decide_eq_true_iff,beq_iff_eq]
 constructor
 ·intro h
  have:=congrArg UInt8.toNat h
  simp at this
  omega
 ·intro h
  have:a=c:=by omega
  subst this
  rfl
theorem j3v {c:Nat} (hc:c < 256):∀ {s:List Nat},(∀ b∈s,b < 256)→Lib.indexByte (s.map UInt8.ofNat) c.toUInt8=(match s.findIdx? (fun (b:Nat)=>decide ((b:Int)=(c:Int))) with | some i=>(i:Int) | none=> -1)
 | [],_=>rfl
 | a::s,h=>by
   have ih:=j3v hc (s:=s) fun b hb=>h b (List.mem_cons_of_mem _ hb)
   have ha:=y9k (h a List.mem_cons_self) hc
   rw[List.map_cons,Lib.indexByte,ha,ih,List.findIdx?_cons]
   by_cases hd:(a:Int)=(c:Int)
   ·simp[hd]
   ·cases hs:s.findIdx? (fun (b:Nat)=>decide ((b:Int)=(c:Int))) with
    | none=>simp[hd,hs]
    | some i=>
      have:((i:Int)== -1)=false:=by simp
      simp[hd,this]
theorem v8h:told Tryz.prog 309 x2h:=by
 intro az v hv G I w cargs hargs himm _
 rw[show real 309=309 from rfl]
 obtain⟨s,c,rfl⟩:∃ s c,az=[.str s, .int .u8 c]:=by
  unfold x2h at hv
  split at hv
  ·exact⟨_,_,rfl⟩
  ·cases hv
 simp only[x2h] at hv
 split at hv
 ·rename_i hc
  injection hv with hv
  subst hv
  simp only[VRL,VR] at hargs
  obtain⟨v1,w1,h1,⟨rfl,hb⟩,v2,w2,rfl,rfl,rfl⟩:=hargs
  obtain rfl:cargs= #[.string (z8f s), .int .u8 c]:=by
   cases cargs
   simp_all
  intro o a next Q hnx
  rw[run_callFunc_extern (fn:=Tryz.f309) Tryz.func309 (by kernel_rfl) (by kernel_rfl) (by kernel_rfl) (e:=Extern.BytealgIndexByte.indexByte) (by kernel_rfl),Lib.run_indexByteString]
  simp only[Result.andThen]
  rw[Oper.upon_value]
  refine hnx _ _ ⟨I,ILe.refl _, ?_,fun _ _ h=>h,rfl,rfl,rfl,Nat.le_refl _,fun _ _ _ h=> .inl h⟩
  simp only[VR]
  obtain⟨n,rfl⟩:∃ n:Nat,c=(n:Int):=⟨c.toNat,by omega⟩
  have hn:n < 256:=by omega
  have:=j3v hn hb
  simp only[Int.toNat_natCast,z8f]
  rw[this]
  rfl
 ·cases hv
end Am
end Go.Proofs.YtdfepmffiampgaaGreatDoor
namespace Go.Proofs.YtdfepmffiampgaaGreatDoor.Am
open Go
set_option maxRecDepth 100000
noncomputable def z2n (T:List (Nat×List (List AV×AV))):AProg where
 fn f:=cFun Tryz.prog x4l (w4n f) (real f)
 ext f:=match y8r f with
  | some sem=>some sem
  | none=>(T.find? fun p=>p.1==f).map fun p=>z7w p.2
 iters:=[235]
theorem u5z:Gam=z2n w4m:=rfl
theorem w6b {T:List (Nat×List (List AV×AV))}:q0y Tryz.prog (z2n T):=by
 intro k hk
 obtain rfl:k=235:=by simpa [z2n] using hk
 exact⟨k0p,fun args w=>z6g Tryz.func235 rfl (by decide)⟩
def Told (T:List (Nat×List (List AV×AV))):Prop:=∀ p∈T,told Tryz.prog p.1 (z7w p.2)
theorem w6c {T:List (Nat×List (List AV×AV))} (h:Told T):ProgOk Tryz.prog x4l (z2n T):=by
 refine⟨fun f af h=>⟨_,h⟩,fun f sem hs=> ?_⟩
 have main:told Tryz.prog f sem:=by
  simp only[z2n,y8r] at hs
  split at hs
  ·rename_i he
   injection hs with hs
   subst hs
   split at he
   ·rename_i h1;injection he with he;subst h1;subst he;exact w5y
   split at he
   ·rename_i h1;injection he with he;subst h1;subst he;exact w5z
   split at he
   ·rename_i h1;injection he with he;subst h1;subst he;exact w6a
   split at he
   ·rename_i h1;injection he with he;subst h1;subst he;exact v8h
   ·cases he
  ·rw[Option.map_eq_some_iff] at hs
   obtain⟨p,hp,rfl⟩:=hs
   have h1:p.1=f:=by simpa using List.find?_some hp
   subst h1
   exact h p (List.mem_of_find?_eq_some hp)
 exact main
def Borne (T:List (Nat×List (List AV×AV))) (f:Nat) (t:List (List AV×AV)):Prop:=∀ q∈t,∃ k,chk (z2n T) k f q=true
theorem Borne.nil {T:List (Nat×List (List AV×AV))} {f:Nat}:Borne T f []:=fun q hq=>by cases hq
theorem Borne.cons {T:List (Nat×List (List AV×AV))} {f k:Nat} {q:List AV×AV} {t:List (List AV×AV)} (h:chk (z2n T) k f q=true) (ht:Borne T f t):Borne T f (q::t):=fun p hp=>by
 rcases List.mem_cons.1 hp with rfl | hp
 ·exact⟨k,h⟩
 ·exact ht p hp
theorem Borne.told {T:List (Nat×List (List AV×AV))} {f:Nat} {t:List (List AV×AV)} (hT:Told T) (h:Borne T f t):told Tryz.prog f (z7w t):=k6j (w6c hT) k1m (j1b (by kernel_rfl)) w6b h
theorem z4t:Told []:=fun p hp=>by cases hp
theorem Told.snoc {T:List (Nat×List (List AV×AV))} {f:Nat} {t:List (List AV×AV)} (hT:Told T) (h:Am.told Tryz.prog f (z7w t)):Told ((f,t)::T):=fun p hp=>by
 rcases List.mem_cons.1 hp with rfl | hp
 ·exact h
 ·exact hT p hp
section
namespace Tw
def c0:AV:=(.str [40,100,101,99,108,97,114,101,45,102,117,110,32,80,32,40,73,110,116,41,32,66,111,111,108,41,40,100,101,99,108,97,114,101,45,102,117,110,32,81,32,40,73,110,116,41,32,66,111,111,108,41,40,97,115,115,101,114,116,32,40,102,111,114,97,108,108,32,40,40,120,32,73,110,116,41,41,32,40,61,62,32,40,61,32,120,32,48,41,32,40,80,32,120,41,41,41,41,40,97,115,115,101,114,116,32,40,102,111,114,97,108,108,32,40,40,120,32,73,110,116,41,41,32,40,61,62,32,40,61,32,120,32,48,41,32,40,81,32,120,41,41,41,41,40,97,115,115,101,114,116,32,40,102,111,114,97,108,108,32,40,40,120,32,73,110,116,41,41,32,40,61,62,32,40,97,110,100,32,40,80,32,120,41,32,40,81,32,120,41,41,32,102,97,108,115,101,41,41,41])
def c1:AV:= .agg [(.int .i64 5),(.str []),(.int .i64 4),(.int .i64 0)]
def c2:AV:=(.str [100,101,99,108,97,114,101,45,102,117,110])
def c3:AV:= .agg [(.int .i64 1),c2,(.int .i64 0),(.int .i64 1)]
def c4:AV:= .agg [(.int .i64 1),(.str [80]),(.int .i64 0),(.int .i64 13)]
def c5:AV:= .agg [(.int .i64 5),(.str []),(.int .i64 1),(.int .i64 15)]
def c6:AV:= .agg [(.int .i64 1),(.str [73,110,116]),(.int .i64 0),(.int .i64 16)]
def c7:AV:=(.str [66,111,111,108])
def c8:AV:= .agg [(.int .i64 1),c7,(.int .i64 0),(.int .i64 21)]
def c9:AV:= .agg [(.int .i64 5),(.str []),(.int .i64 4),(.int .i64 26)]
def c10:AV:= .agg [(.int .i64 1),c2,(.int .i64 0),(.int .i64 27)]
def c11:AV:= .agg [(.int .i64 1),(.str [81]),(.int .i64 0),(.int .i64 39)]
def c12:AV:= .agg [(.int .i64 5),(.str []),(.int .i64 1),(.int .i64 41)]
def c13:AV:= .agg [(.int .i64 1),(.str [73,110,116]),(.int .i64 0),(.int .i64 42)]
def c14:AV:= .agg [(.int .i64 1),c7,(.int .i64 0),(.int .i64 47)]
def c15:AV:= .agg [(.int .i64 5),(.str []),(.int .i64 2),(.int .i64 52)]
def c16:AV:=(.str [97,115,115,101,114,116])
def c17:AV:= .agg [(.int .i64 1),c16,(.int .i64 0),(.int .i64 53)]
def c18:AV:= .agg [(.int .i64 5),(.str []),(.int .i64 3),(.int .i64 60)]
def c19:AV:=(.str [102,111,114,97,108,108])
def c20:AV:= .agg [(.int .i64 1),c19,(.int .i64 0),(.int .i64 61)]
def c21:AV:= .agg [(.int .i64 5),(.str []),(.int .i64 1),(.int .i64 68)]
def c22:AV:= .agg [(.int .i64 5),(.str []),(.int .i64 2),(.int .i64 69)]
def c23:AV:= .agg [(.int .i64 1),(.str [120]),(.int .i64 0),(.int .i64 70)]
def c24:AV:= .agg [(.int .i64 1),(.str [73,110,116]),(.int .i64 0),(.int .i64 72)]
def c25:AV:= .agg [(.int .i64 5),(.str []),(.int .i64 3),(.int .i64 78)]
def c26:AV:= .agg [(.int .i64 1),(.str [61,62]),(.int .i64 0),(.int .i64 79)]
def c27:AV:= .agg [(.int .i64 5),(.str []),(.int .i64 3),(.int .i64 82)]
def c28:AV:= .agg [(.int .i64 1),(.str [61]),(.int .i64 0),(.int .i64 83)]
def c29:AV:= .agg [(.int .i64 1),(.str [120]),(.int .i64 0),(.int .i64 85)]
def c30:AV:= .agg [(.int .i64 2),(.str [48]),(.int .i64 0),(.int .i64 87)]
def c31:AV:= .agg [(.int .i64 5),(.str []),(.int .i64 2),(.int .i64 90)]
def c32:AV:= .agg [(.int .i64 1),(.str [80]),(.int .i64 0),(.int .i64 91)]
def c33:AV:= .agg [(.int .i64 1),(.str [120]),(.int .i64 0),(.int .i64 93)]
def c34:AV:= .agg [(.int .i64 5),(.str []),(.int .i64 2),(.int .i64 98)]
def c35:AV:= .agg [(.int .i64 1),c16,(.int .i64 0),(.int .i64 99)]
def c36:AV:= .agg [(.int .i64 5),(.str []),(.int .i64 3),(.int .i64 106)]
def c37:AV:= .agg [(.int .i64 1),c19,(.int .i64 0),(.int .i64 107)]
def c38:AV:= .agg [(.int .i64 5),(.str []),(.int .i64 1),(.int .i64 114)]
def c39:AV:= .agg [(.int .i64 5),(.str []),(.int .i64 2),(.int .i64 115)]
def c40:AV:= .agg [(.int .i64 1),(.str [120]),(.int .i64 0),(.int .i64 116)]
def c41:AV:= .agg [(.int .i64 1),(.str [73,110,116]),(.int .i64 0),(.int .i64 118)]
def c42:AV:= .agg [(.int .i64 5),(.str []),(.int .i64 3),(.int .i64 124)]
def c43:AV:= .agg [(.int .i64 1),(.str [61,62]),(.int .i64 0),(.int .i64 125)]
def c44:AV:= .agg [(.int .i64 5),(.str []),(.int .i64 3),(.int .i64 128)]
def c45:AV:= .agg [(.int .i64 1),(.str [61]),(.int .i64 0),(.int .i64 129)]
def c46:AV:= .agg [(.int .i64 1),(.str [120]),(.int .i64 0),(.int .i64 131)]
def c47:AV:= .agg [(.int .i64 2),(.str [48]),(.int .i64 0),(.int .i64 133)]
def c48:AV:= .agg [(.int .i64 5),(.str []),(.int .i64 2),(.int .i64 136)]
def c49:AV:= .agg [(.int .i64 1),(.str [81]),(.int .i64 0),(.int .i64 137)]
def c50:AV:= .agg [(.int .i64 1),(.str [120]),(.int .i64 0),(.int .i64 139)]
def c51:AV:= .agg [(.int .i64 5),(.str []),(.int .i64 2),(.int .i64 144)]
def c52:AV:= .agg [(.int .i64 1),c16,(.int .i64 0),(.int .i64 145)]
def c53:AV:= .agg [(.int .i64 5),(.str []),(.int .i64 3),(.int .i64 152)]
def c54:AV:= .agg [(.int .i64 1),c19,(.int .i64 0),(.int .i64 153)]
def c55:AV:= .agg [(.int .i64 5),(.str []),(.int .i64 1),(.int .i64 160)]
def c56:AV:= .agg [(.int .i64 5),(.str []),(.int .i64 2),(.int .i64 161)]
def c57:AV:= .agg [(.int .i64 1),(.str [120]),(.int .i64 0),(.int .i64 162)]
def c58:AV:= .agg [(.int .i64 1),(.str [73,110,116]),(.int .i64 0),(.int .i64 164)]
def c59:AV:= .agg [(.int .i64 5),(.str []),(.int .i64 3),(.int .i64 170)]
def c60:AV:= .agg [(.int .i64 1),(.str [61,62]),(.int .i64 0),(.int .i64 171)]
def c61:AV:= .agg [(.int .i64 5),(.str []),(.int .i64 3),(.int .i64 174)]
def c62:AV:= .agg [(.int .i64 1),(.str [97,110,100]),(.int .i64 0),(.int .i64 175)]
def c63:AV:= .agg [(.int .i64 5),(.str []),(.int .i64 2),(.int .i64 179)]
def c64:AV:= .agg [(.int .i64 1),(.str [80]),(.int .i64 0),(.int .i64 180)]
def c65:AV:= .agg [(.int .i64 1),(.str [120]),(.int .i64 0),(.int .i64 182)]
def c66:AV:= .agg [(.int .i64 5),(.str []),(.int .i64 2),(.int .i64 185)]
def c67:AV:= .agg [(.int .i64 1),(.str [81]),(.int .i64 0),(.int .i64 186)]
def c68:AV:= .agg [(.int .i64 1),(.str [120]),(.int .i64 0),(.int .i64 188)]
def c69:AV:=(.str [102,97,108,115,101])
def c70:AV:= .agg [(.int .i64 1),c69,(.int .i64 0),(.int .i64 192)]
def c71:AV:= .sl [c1,c3,c4,c5,c6,c8,c9,c10,c11,c12,c13,c14,c15,c17,c18,c20,c21,c22,c23,c24,c25,c26,c27,c28,c29,c30,c31,c32,c33,c34,c35,c36,c37,c38,c39,c40,c41,c42,c43,c44,c45,c46,c47,c48,c49,c50,c51,c52,c53,c54,c55,c56,c57,c58,c59,c60,c61,c62,c63,c64,c65,c66,c67,c68,c70] .no
def c72:AV:= .tup [c71,(.int .i64 0),(.int .i64 0)]
def c73:AV:= .sl [(.int .i64 0),(.int .i64 6),(.int .i64 12),(.int .i64 29),(.int .i64 46)] .no
def c74:AV:= .sl [(.int .i64 1),(.int .i64 2),(.int .i64 3),(.int .i64 5)] .no
def c75:AV:= .sl [(.int .i64 7),(.int .i64 8),(.int .i64 9),(.int .i64 11)] .no
def c76:AV:= .sl [(.int .i64 13),(.int .i64 14)] .no
def c77:AV:= .sl [(.int .i64 15),(.int .i64 16),(.int .i64 20)] .no
def c78:AV:= .sl [(.int .i64 18),(.int .i64 19)] .no
def c79:AV:= .agg [(.str [120]),(.int .i64 2)]
def c80:AV:= .sl [c79] .no
def c81:AV:= .tup [c80,(.int .i64 0)]
def c82:AV:= .sl [(.int .i64 21),(.int .i64 22),(.int .i64 26)] .no
def c83:AV:= .sl [(.int .i64 23),(.int .i64 24),(.int .i64 25)] .no
def c84:AV:= .agg [(.int .i64 4),(.int .i64 2),(.str [120]),(.str []),(.int .i64 0)]
def c85:AV:= .sl [c84] .no
def c86:AV:= .agg [(.int .i64 3),(.int .i64 2),(.str []),(.str [48]),(.int .i64 0)]
def c87:AV:= .sl [c86] .no
def c88:AV:= .agg [(.int .i64 11),(.int .i64 0),(.str []),(.str []),(.int .i64 0)]
def c89:AV:= .sl [c85,c87] .no
def c90:AV:= .agg [(.int .i64 11),(.int .i64 0),(.str []),(.str []),(.int .i64 2)]
def c91:AV:= .sl [c90,c84,c86] .no
def c92:AV:= .tup [c91,(.int .i64 0)]
def c93:AV:= .sl [(.int .i64 27),(.int .i64 28)] .no
def c94:AV:= .agg [(.int .i64 5),(.int .i64 1),(.str [80]),(.str []),(.int .i64 0)]
def c95:AV:= .sl [c85] .no
def c96:AV:= .agg [(.int .i64 5),(.int .i64 1),(.str [80]),(.str []),(.int .i64 1)]
def c97:AV:= .sl [c96,c84] .no
def c98:AV:= .tup [c97,(.int .i64 0)]
def c99:AV:= .agg [(.int .i64 9),(.int .i64 0),(.str []),(.str []),(.int .i64 0)]
def u9s:AV:= .sl [c91,c97] .no
def y9l:AV:= .agg [(.int .i64 9),(.int .i64 0),(.str []),(.str []),(.int .i64 2)]
def y9m:AV:= .sl [y9l,c90,c84,c86,c96,c84] .no
def u9t:AV:= .tup [y9m,(.int .i64 0)]
def u6a:AV:= .agg [(.str [80]),(.sl [(.int .i64 2)] .no),(.int .i64 1)]
def u9u:AV:= .agg [(.str [81]),(.sl [(.int .i64 2)] .no),(.int .i64 1)]
def v8i:AV:= .sl [u6a,u9u] .no
def u9v:AV:= .tup [y9m,(.int .i64 0),(.int .i64 0)]
def y9n:AV:= .agg [c80,(.sl [] .no),c91,(.str [80]),c95]
def u9w:AV:= .sl [y9n] .no
def u9x:AV:= .agg [v8i,u9w]
def u9y:AV:= .sl [(.int .i64 30),(.int .i64 31)] .no
def u9z:AV:= .sl [(.int .i64 32),(.int .i64 33),(.int .i64 37)] .no
def g0a:AV:= .sl [(.int .i64 35),(.int .i64 36)] .no
def g0b:AV:= .sl [(.int .i64 38),(.int .i64 39),(.int .i64 43)] .no
def g0c:AV:= .sl [(.int .i64 40),(.int .i64 41),(.int .i64 42)] .no
def g0d:AV:= .sl [(.int .i64 44),(.int .i64 45)] .no
def g0e:AV:= .agg [(.int .i64 5),(.int .i64 1),(.str [81]),(.str []),(.int .i64 0)]
def y8e:AV:= .agg [(.int .i64 5),(.int .i64 1),(.str [81]),(.str []),(.int .i64 1)]
def y8f:AV:= .sl [y8e,c84] .no
def g0f:AV:= .tup [y8f,(.int .i64 0)]
def g0g:AV:= .sl [c91,y8f] .no
def y9o:AV:= .sl [y9l,c90,c84,c86,y8e,c84] .no
def g0h:AV:= .tup [y9o,(.int .i64 0)]
def g0i:AV:= .tup [y9o,(.int .i64 0),(.int .i64 0)]
def u6b:AV:= .agg [c80,(.sl [] .no),c91,(.str [81]),c95]
def g0j:AV:= .sl [u6b] .no
def g0k:AV:= .agg [v8i,g0j]
def g0l:AV:= .sl [(.int .i64 47),(.int .i64 48)] .no
def g0m:AV:= .sl [(.int .i64 49),(.int .i64 50),(.int .i64 54)] .no
def g0n:AV:= .sl [(.int .i64 52),(.int .i64 53)] .no
def g0o:AV:= .sl [(.int .i64 55),(.int .i64 56),(.int .i64 64)] .no
def g0p:AV:= .sl [(.int .i64 57),(.int .i64 58),(.int .i64 61)] .no
def g0q:AV:= .sl [(.int .i64 59),(.int .i64 60)] .no
def g0r:AV:= .sl [(.int .i64 62),(.int .i64 63)] .no
def g0s:AV:= .agg [(.int .i64 7),(.int .i64 0),(.str []),(.str []),(.int .i64 0)]
def g0t:AV:= .sl [c97,y8f] .no
def u6c:AV:= .agg [(.int .i64 7),(.int .i64 0),(.str []),(.str []),(.int .i64 2)]
def y9p:AV:= .sl [u6c,c96,c84,y8e,c84] .no
def g0u:AV:= .tup [y9p,(.int .i64 0)]
def u6d:AV:= .agg [(.int .i64 2),(.int .i64 0),(.str []),(.str []),(.int .i64 0)]
def u6e:AV:= .sl [u6d] .no
def g0v:AV:= .sl [y9p,u6e] .no
def y9q:AV:= .sl [y9l,u6c,c96,c84,y8e,c84,u6d] .no
def g0w:AV:= .tup [y9q,(.int .i64 0)]
def g0x:AV:= .tup [y9q,(.int .i64 0),(.int .i64 0)]
def g0y:AV:= .agg [(.int .i64 1),(.int .i64 0),(.str []),(.str []),(.int .i64 0)]
def y9r:AV:= .sl [g0y] .no
def y9s:AV:= .agg [(.str [80]),c95]
def g0z:AV:= .agg [(.str [81]),c95]
def g1a:AV:= .sl [y9s,g0z] .no
def u6f:AV:= .agg [c80,g1a,y9r,(.str []),(.sl [] .no)]
def g1b:AV:= .sl [u6f] .no
def g1c:AV:= .agg [v8i,g1b]
def g1d:AV:= .sl [y9n,u6b,u6f] .no
def u6g:AV:= .agg [v8i,g1d]
def u6h:AV:= .agg [(.int .i64 6),(.str [81]),(.str [80]),(.int .i64 0),(.int .i64 0),(.sl [] .no),(.sl [] .no),(.sl [] .no)]
def g1e:AV:= .tup [u6h,(.int .i64 0)]
def g1f:AV:= .sl [u6a] .no
def g1g:AV:= .sl [y9s,y9s] .no
def g1h:AV:= .agg [c80,g1g,y9r,(.str []),(.sl [] .no)]
def g1i:AV:= .sl [y9n,g1h] .no
def u6i:AV:= .agg [g1f,g1i]
def g1j:AV:= .tup [u6i,(.int .i64 0)]
def w6d:List AV×AV:=([c0],c72)
def t54:List (List AV×AV):=[w6d]
def w6e:List AV×AV:=([c71],c73)
def t55:List (List AV×AV):=[w6e]
def w6f:List AV×AV:=([c71,(.int .i64 0)],c74)
def w6g:List AV×AV:=([c71,(.int .i64 3)],(.sl [(.int .i64 4)] .no))
def w6h:List AV×AV:=([c71,(.int .i64 6)],c75)
def w6i:List AV×AV:=([c71,(.int .i64 9)],(.sl [(.int .i64 10)] .no))
def w6j:List AV×AV:=([c71,(.int .i64 12)],c76)
def w6k:List AV×AV:=([c71,(.int .i64 14)],c77)
def w6l:List AV×AV:=([c71,(.int .i64 16)],(.sl [(.int .i64 17)] .no))
def w6m:List AV×AV:=([c71,(.int .i64 17)],c78)
def w6n:List AV×AV:=([c71,(.int .i64 20)],c82)
def w6o:List AV×AV:=([c71,(.int .i64 22)],c83)
def v2k:List AV×AV:=([c71,(.int .i64 26)],c93)
def v2l:List AV×AV:=([c71,(.int .i64 29)],u9y)
def v2m:List AV×AV:=([c71,(.int .i64 31)],u9z)
def v2n:List AV×AV:=([c71,(.int .i64 33)],(.sl [(.int .i64 34)] .no))
def v2o:List AV×AV:=([c71,(.int .i64 34)],g0a)
def v2p:List AV×AV:=([c71,(.int .i64 37)],g0b)
def v2q:List AV×AV:=([c71,(.int .i64 39)],g0c)
def v2r:List AV×AV:=([c71,(.int .i64 43)],g0d)
def v2s:List AV×AV:=([c71,(.int .i64 46)],g0l)
def v2t:List AV×AV:=([c71,(.int .i64 48)],g0m)
def v2u:List AV×AV:=([c71,(.int .i64 50)],(.sl [(.int .i64 51)] .no))
def v2v:List AV×AV:=([c71,(.int .i64 51)],g0n)
def v2w:List AV×AV:=([c71,(.int .i64 54)],g0o)
def v2x:List AV×AV:=([c71,(.int .i64 56)],g0p)
def v2y:List AV×AV:=([c71,(.int .i64 58)],g0q)
def v2z:List AV×AV:=([c71,(.int .i64 61)],g0r)
def t56:List (List AV×AV):=[w6f,w6g,w6h,w6i,w6j,w6k,w6l,w6m,w6n,w6o,v2k,v2l,v2m,v2n,v2o,v2p,v2q,v2r,v2s,v2t,v2u,v2v,v2w,v2x,v2y,v2z]
def v3a:List AV×AV:=([c85],(.int .i64 2))
def v3b:List AV×AV:=([c87],(.int .i64 2))
def v3c:List AV×AV:=([c91],(.int .i64 1))
def v3d:List AV×AV:=([c97],(.int .i64 1))
def v3e:List AV×AV:=([y9m],(.int .i64 1))
def v3f:List AV×AV:=([y8f],(.int .i64 1))
def v3g:List AV×AV:=([y9o],(.int .i64 1))
def v3h:List AV×AV:=([y9p],(.int .i64 1))
def v3i:List AV×AV:=([u6e],(.int .i64 1))
def v3j:List AV×AV:=([y9q],(.int .i64 1))
def k1n:List AV×AV:=([y9r],(.int .i64 1))
def u6j:List (List AV×AV):=[v3a,v3b,v3c,v3d,v3e,v3f,v3g,v3h,v3i,v3j,k1n]
def w6p:List AV×AV:=([u6g],g1e)
def t11:List (List AV×AV):=[w6p]
def w6q:List AV×AV:=([u6g,u6h],g1j)
def t15:List (List AV×AV):=[w6q]
def v3k:List AV×AV:=([c88,c89],c92)
def v3l:List AV×AV:=([c94,c95],c98)
def v3m:List AV×AV:=([c99,u9s],u9t)
def v3n:List AV×AV:=([g0e,c95],g0f)
def v3o:List AV×AV:=([c99,g0g],g0h)
def v3p:List AV×AV:=([g0s,g0t],g0u)
def v3q:List AV×AV:=([c99,g0v],g0w)
def u6k:List (List AV×AV):=[v3k,v3l,v3m,v3n,v3o,v3p,v3q]
def v3r:List AV×AV:=([c71,(.int .i64 16)],c81)
def v3s:List AV×AV:=([c71,(.int .i64 33)],c81)
def v3t:List AV×AV:=([c71,(.int .i64 50)],c81)
def u6l:List (List AV×AV):=[v3r,v3s,v3t]
def w6r:List AV×AV:=([u9x],(.bool true))
def w6s:List AV×AV:=([g0k],(.bool true))
def w6t:List AV×AV:=([g1c],(.bool true))
def w6u:List AV×AV:=([u6i],(.bool true))
def t28:List (List AV×AV):=[w6r,w6s,w6t,w6u]
def v3u:List AV×AV:=([c71,(.int .i64 20),c80,v8i],u9v)
def v3v:List AV×AV:=([c71,(.int .i64 37),c80,v8i],g0i)
def v3w:List AV×AV:=([c71,(.int .i64 54),c80,v8i],g0x)
def u6m:List (List AV×AV):=[v3u,v3v,v3w]
end Tw
open Tw
def tw1:List (Nat×List (List AV×AV)):=(82,t54)::(83,t55)::(84,t56)::(129,u6j)::(43,t11)::(23,t15)::[]
def tw2:List (Nat×List (List AV×AV)):=(268,u6k)::(145,u6l)::(44,t28)::tw1
def tw3:List (Nat×List (List AV×AV)):=(147,u6m)::tw2
end
end Go.Proofs.YtdfepmffiampgaaGreatDoor.Am
