/- Functions that are told: slices Programs whose functions are told by tables What the functions answer that awake calls -/
import Derived.Lib.Bytealg
import Derived.Laws.Externs
import Derived.Test.YtmkblnlafljljaaGreatDoorM09
open Nat renaming reduceBEq → z0,reduceAdd → z1,reduceLeDiff → z2,reduceSub → z3
set_option linter.all false
namespace Go.Proofs.YtmkblnlafljljaaGreatDoor
open Go Go.RowKit
namespace Am
set_option maxRecDepth 100000
noncomputable def j2b:AProg where
 fn f:=cFun Tryz.prog x1p {byref:=[0]} f
 ext _:=none
 iters:=[]
theorem w6y:ProgOk Tryz.prog x1p j2b:=⟨fun f af h=>⟨_,h⟩,fun f sem h=>by cases h⟩
theorem j5k:q0o Tryz.prog x1p:=by
 intro f k hk G I w x cx hr hx himm
 unfold x1p at hk
 split at hk
 ·rename_i hf
  injection hk with hk
  subst hf;subst hk
  exact j4l hr hx himm
 ·cases hk
theorem w6z:q0d Tryz.prog j2b:=fun k hk=>by simp[j2b] at hk
def z7y (z:AV) (esz b:Nat):AFun:=
 {ntmps:=8,nslots:=2,results:=[.tmp 2],byref:=[0],owned:=false,
  body:=(.seq (.region 1 [⟨(some 2), .move (.const (.sl [] .nil)),none⟩] []) (.seq (.seq (.region 2 [⟨(some 3), .move (.tmp 0),none⟩,⟨(some 4), .binOp .eql .sl (.tmp 3) (.const (.sl [] .nil)),none⟩] []) (.cond (.tmp 4) (.seq (.region 1 [⟨(some 2), .move (.const (.sl [] .nil)),none⟩] []) .ret) .skip)) (.seq (.region 4 [⟨(some 5), .buildSlice 0 false z 0 [],none⟩,⟨(some 6), .move (.tmp 0),none⟩,⟨(some 7), .append 1 esz b false (.tmp 5) (.tmp 6),none⟩,⟨(some 2), .move (.tmp 7),none⟩] []) .ret)))}
theorem w7a:j2b.fn 58=some (z7y (.int .i64 0) 1 8):=by kernel_rfl
theorem w7b:j2b.fn 59=some (z7y (.agg [(.str []),(.int .i64 0)]) 2 24):=by kernel_rfl
theorem w7c:j2b.fn 60=some (z7y (.agg [(.int .i64 0),(.int .i64 0),(.str []),(.str []),(.int .i64 0)]) 5 56):=by kernel_rfl
theorem w7d {base g k clk:Nat} {ts:Tmps} {h:List AObj} {z:AV} {dst:Nat} {os:List AOper} {ks:List Kf} {Q:Post} (hz:z.def? =true):O j2b base .plain g (⟨some dst, .buildSlice k false z 0 [],none⟩::os) ⟨ts,h,clk⟩ ks Q=O j2b base .plain (g + 1) os ⟨upd ts dst (.sl [] .full),h,clk⟩ ks Q:=by
 rw[q2r rfl]
 have:prim h base g ts (.buildSlice k false z 0 [])=some (.sl [] .full,h):=by
  simp only[prim,hz,Bool.not_true,Bool.false_eq_true,if_false,List.map_nil,z9f,z4x,freezeAll]
  rfl
 rw[this]
 rfl
theorem k1f {f esz b:Nat} {z:AV} {xs:List AV} (hf:j2b.fn f=some (z7y z esz b)) (hz:z.def? =true) (h1:z0u esz xs=true) (h3:idsL xs=[]) (h2:xs.length * (b + 1)≤2 ^ 46):∃ k,z5i j2b k f [.sl xs .nn] [] 0=some (.sl xs .no,[],0):=by
 have hext:j2b.ext f=none:=rfl
 have heq:∀ h,z7j h .eql .sl (.sl xs .nn) (.sl [] .nil)=some (.bool false,h):=fun h=>by cases xs <;> rfl
 have hgt:¬ (([]:List AV).length + xs.length) * (b + 1) > z0z:=by unfold z0z;simp;omega
 have happ:∀ h s g,z1d h s g esz b false (.sl [] .full) (.sl xs .nn)=some (.sl xs (.at s g),h.set s (.tip g esz)):=fun h s g=>by
  have ha:z0u esz []=true:=rfl
  unfold z1d
  simp only[z5g,h1,ha,Bool.not_true,Bool.false_eq_true,if_false,decide_eq_true_eq,hgt,Bool.or_false,List.nil_append]
 have hp:z1f [] [0] 0 [.sl xs .nn]=some [.sl xs .nn]:=by simp[z1f]
 have hl:z0n [0] 0 [.sl xs .nn]=[]:=by simp[z0n]
 have hids:idsL [.sl xs .nn]=[]:=by simp[idsL,AV.ids,h3]
 have hK:K j2b 0 (z7y z esz b).body [] ⟨z9h [.sl xs .nn],[.dead, .dead],0⟩ (fun e s=>e= .ret∧∃ g,s.ts 2= .sl xs (.at 1 g)):=by
  simp only[go_sem,z0,z7y,heq,w7d hz,happ,Nat.zero_add]
  exact⟨trivial,_,rfl⟩
 obtain⟨k,e,s,he,rfl,g,hs2⟩:=hK
 refine⟨k, ?_⟩
 unfold z5i z0i
 have hrep:maskFrom [] 0 ([]:List AObj)++List.replicate (z7y z esz b).nslots .dead=[.dead, .dead]:=rfl
 simp only[hext,hf,show (z7y z esz b).byref=[0] from rfl,hp,hl,hids,reach,freezeAll,List.length_nil,hrep,he,show (z7y z esz b).results=[.tmp 2] from rfl,z1j,Option.map_some,hs2,z1o,show (z7y z esz b).owned=false from rfl,Bool.false_eq_true,if_false,conv]
 have hobs:(AV.sl xs (.at 1 g)).obs=[]:=rfl
 simp[hobs,freezeAll,AV.ids,h3]
 cases s.h <;> rfl
theorem q4u {f esz b:Nat} {z:AV} {fn:Func} {c:Code} (hfn:j2b.fn f=some (z7y z esz b)) (hz:z.def? =true)
  (hnil:∀ n c w,Calls Tryz.prog f #[.slice none n c] w fun e w'=>e= .returned (.slice none 0 0)∧w'=w) (hf:Tryz.prog.funcs[f]? =some fn) (hb:fn.body=some c) (hn:fn.name≠ "runtime.NumGoroutine"):told Tryz.prog f (z4p esz b):=by
 intro az v hv G I w cargs hargs himm _
 obtain⟨xs,t,rfl⟩:∃ xs t,az=[.sl xs t]:=by
  unfold z4p at hv
  split at hv
  ·exact⟨_,_,rfl⟩
  ·cases hv
 simp only[z4p] at hv
 split at hv
 ·rename_i hc
  injection hv with hv
  subst hv
  obtain⟨h1,h3,h2⟩:=hc
  rw[List.isEmpty_iff] at h3
  simp only[VRL] at hargs
  obtain⟨cv,ws,hcv,hx,rfl⟩:=hargs
  obtain rfl:cargs= #[cv]:=by
   cases cargs
   simp_all
  simp only[VR] at hx
  obtain⟨A,n,cc,rfl,hlen,hnc,_,hrow⟩:=hx
  cases A with
  | none=>
    intro o a next Q hnx
    rw[z5m hf hb hn,Oper.upon_enter]
    refine (hnil n cc w).mono ?_
    rintro e w' ⟨rfl,rfl⟩
    refine hnx _ _ ⟨I,ILe.refl _, ?_,fun _ _ h=>h,rfl,rfl,rfl,Nat.le_refl _,fun _ _ _ h=> .inl h⟩
    have hn0:n=0:=by
     rcases hrow with h | ⟨_,_,_,h,_⟩
     ·exact h
     ·cases h
    have:xs=[]:=List.length_eq_zero_iff.1 (by omega)
    subst this
    simp only[VR]
    exact⟨none,0,0,rfl,rfl,Nat.le_refl _,trivial, .inl rfl⟩
  | some A=>
    have hargs0:VRL (fun _=>none) I [.sl xs .nn] [Value.slice (some A) n cc]:=by
     refine VRL.keep (n:=0) (G:=G) q1v (by simp[idsL,AV.ids,h3]) ?_
     simp only[VRL,VR]
     exact⟨_,_,rfl,⟨_,_,_,rfl,hlen,hnc,by simp[TipR],hrow⟩,rfl⟩
    obtain⟨k,hk⟩:=k1f hfn hz h1 h3 h2
    intro o a next Q hnx
    refine q4p w6y j5k (x7c (by kernel_rfl)) w6z k f [.sl xs .nn] [] 0 _ _ _ hk (fun _=>none) I w #[Value.slice (some A) n cc] hargs0 ⟨himm,fun i o ho=>by simp at ho,fun i j oi oj b hi=>by simp at hi⟩ (fun _ _=>rfl) o a next Q fun cv w' he=>hnx cv w' ?_
    obtain⟨G',I',hv',hran,_⟩:=he
    refine⟨I',hran.ile,VR.keep (n:=0) q1v (by simp[AV.ids,h3]) hv',fun b y hy=> ?_,hran.fr.os,hran.fr.tape,hran.fr.output,hran.fr.size,fun b o v hv=> ?_⟩
    ·have hb:b < w.heap.size:=(Array.getElem?_eq_some_iff.1 hy).1
     rw[hran.fr.kept b hb fun i o hi=>by simp at hi]
     exact hy
    ·rcases Nat.lt_or_ge b w.heap.size with hb | hb
     ·exact .inl (hran.ifr b hb (fun i o hi=>by simp at hi) o v hv)
     ·exact .inr ⟨hb,hran.rel.imm b o v hv⟩
 ·cases hv
theorem k1g (n c:Nat) (w:World):(binOp BinOp.eql 22 (Value.slice none n c) (Value.slice none 0 0)).run Tryz.prog w= .ok (.bool true) w:=by
 rfl
theorem k1h (n c:Nat) (w:World):(binOp BinOp.eql 44 (Value.slice none n c) (Value.slice none 0 0)).run Tryz.prog w= .ok (.bool true) w:=by
 rfl
theorem k1i (n c:Nat) (w:World):(binOp BinOp.eql 46 (Value.slice none n c) (Value.slice none 0 0)).run Tryz.prog w= .ok (.bool true) w:=by
 rfl
theorem w7e (n c:Nat) (w:World):Calls Tryz.prog 58 #[.slice none n c] w fun e w'=>e= .returned (.slice none 0 0)∧w'=w:=by
 go_enter Tryz.func58,Tryz.ntmps58
 go_wp2
 rw[k1g]
 go_wp2
 go_ret
 exact⟨rfl,rfl⟩
theorem w7f (n c:Nat) (w:World):Calls Tryz.prog 59 #[.slice none n c] w fun e w'=>e= .returned (.slice none 0 0)∧w'=w:=by
 go_enter Tryz.func59,Tryz.ntmps59
 go_wp2
 rw[k1h]
 go_wp2
 go_ret
 exact⟨rfl,rfl⟩
theorem w7g (n c:Nat) (w:World):Calls Tryz.prog 60 #[.slice none n c] w fun e w'=>e= .returned (.slice none 0 0)∧w'=w:=by
 go_enter Tryz.func60,Tryz.ntmps60
 go_wp2
 rw[k1i]
 go_wp2
 go_ret
 exact⟨rfl,rfl⟩
theorem v6p:told Tryz.prog 58 (z4p 1 8):=q4u w7a rfl w7e Tryz.func58 rfl (by decide)
theorem v6q:told Tryz.prog 59 (z4p 2 24):=q4u w7b rfl w7f Tryz.func59 rfl (by decide)
theorem v6r:told Tryz.prog 60 (z4p 5 56):=q4u w7c rfl w7g Tryz.func60 rfl (by decide)
theorem w7h {a c:Nat} (ha:a < 256) (hc:c < 256):(UInt8.ofNat a==c.toUInt8)=decide ((a:Int)=(c:Int)):=by
 rw[Bool.eq_iff_iff,decide_eq_true_iff,beq_iff_eq]
 constructor
 ·intro h
  have:=congrArg UInt8.toNat h
  simp at this
  omega
 ·intro h
  have:a=c:=by omega
  subst this
  rfl
theorem x9m {c:Nat} (hc:c < 256):∀ {s:List Nat},(∀ b∈s,b < 256)→Lib.indexByte (s.map UInt8.ofNat) c.toUInt8=(match s.findIdx? (fun (b:Nat)=>decide ((b:Int)=(c:Int))) with | some i=>(i:Int) | none=> -1)
 | [],_=>rfl
 | a::s,h=>by
   have ih:=x9m hc (s:=s) fun b hb=>h b (List.mem_cons_of_mem _ hb)
   have ha:=w7h (h a List.mem_cons_self) hc
   rw[List.map_cons,Lib.indexByte,ha,ih,List.findIdx?_cons]
   by_cases hd:(a:Int)=(c:Int)
   ·simp[hd]
   ·cases hs:s.findIdx? (fun (b:Nat)=>decide ((b:Int)=(c:Int))) with
    | none=>simp[hd,hs]
    | some i=>
      have:((i:Int)== -1)=false:=by simp
      simp[hd,this]
theorem k8u:told Tryz.prog 270 x0b:=by
 intro az v hv G I w cargs hargs himm _
 obtain⟨s,c,rfl⟩:∃ s c,az=[.str s, .int .u8 c]:=by
  unfold x0b at hv
  split at hv
  ·exact⟨_,_,rfl⟩
  ·cases hv
 simp only[x0b] at hv
 split at hv
 ·rename_i hc
  injection hv with hv
  subst hv
  simp only[VRL,VR] at hargs
  obtain⟨v1,w1,h1,⟨rfl,hb⟩,v2,w2,rfl,rfl,rfl⟩:=hargs
  obtain rfl:cargs= #[.string (z7g s), .int .u8 c]:=by
   cases cargs
   simp_all
  intro o a next Q hnx
  rw[run_callFunc_extern (fn:=Tryz.f270) Tryz.func270 (by kernel_rfl) (by kernel_rfl) (by kernel_rfl) (e:=Extern.BytealgIndexByte.indexByte) (by kernel_rfl),Lib.run_indexByteString]
  simp only[Result.andThen]
  rw[Oper.upon_value]
  refine hnx _ _ ⟨I,ILe.refl _, ?_,fun _ _ h=>h,rfl,rfl,rfl,Nat.le_refl _,fun _ _ _ h=> .inl h⟩
  simp only[VR]
  obtain⟨n,rfl⟩:∃ n:Nat,c=(n:Int):=⟨c.toNat,by omega⟩
  have hn:n < 256:=by omega
  have:=x9m hn hb
  simp only[Int.toNat_natCast,z7g]
  rw[this]
  rfl
 ·cases hv
end Am
end Go.Proofs.YtmkblnlafljljaaGreatDoor
namespace Go.Proofs.YtmkblnlafljljaaGreatDoor.Am
open Go
set_option maxRecDepth 100000
noncomputable def z2g (T:List (Nat×List (List AV×AV))):AProg where
 fn f:=cFun Tryz.prog x1p (v5c f) f
 ext f:=match w6o f with
  | some sem=>some sem
  | none=>(T.find? fun p=>p.1==f).map fun p=>q6r p.2
 iters:=[226]
theorem y3f:Gam=z2g v5b:=rfl
theorem v6s {T:List (Nat×List (List AV×AV))}:q0d Tryz.prog (z2g T):=by
 intro k hk
 obtain rfl:k=226:=by simpa [z2g] using hk
 exact⟨j4k,fun args w=>z5m Tryz.func226 rfl (by decide)⟩
def Told (T:List (Nat×List (List AV×AV))):Prop:=∀ p∈T,told Tryz.prog p.1 (q6r p.2)
theorem v6t {T:List (Nat×List (List AV×AV))} (h:Told T):ProgOk Tryz.prog x1p (z2g T):=by
 refine⟨fun f af h=>⟨_,h⟩,fun f sem hs=> ?_⟩
 have main:told Tryz.prog f sem:=by
  simp only[z2g,w6o] at hs
  split at hs
  ·rename_i he
   injection hs with hs
   subst hs
   split at he
   ·rename_i h1;injection he with he;subst h1;subst he;exact v6p
   split at he
   ·rename_i h1;injection he with he;subst h1;subst he;exact v6q
   split at he
   ·rename_i h1;injection he with he;subst h1;subst he;exact v6r
   split at he
   ·rename_i h1;injection he with he;subst h1;subst he;exact k8u
   ·cases he
  ·rw[Option.map_eq_some_iff] at hs
   obtain⟨p,hp,rfl⟩:=hs
   have h1:p.1=f:=by simpa using List.find?_some hp
   subst h1
   exact h p (List.mem_of_find?_eq_some hp)
 exact main
def Borne (T:List (Nat×List (List AV×AV))) (f:Nat) (t:List (List AV×AV)):Prop:=∀ q∈t,∃ k,chk (z2g T) k f q=true
theorem Borne.nil {T:List (Nat×List (List AV×AV))} {f:Nat}:Borne T f []:=fun q hq=>by cases hq
theorem Borne.cons {T:List (Nat×List (List AV×AV))} {f k:Nat} {q:List AV×AV} {t:List (List AV×AV)} (h:chk (z2g T) k f q=true) (ht:Borne T f t):Borne T f (q::t):=fun p hp=>by
 rcases List.mem_cons.1 hp with rfl | hp
 ·exact⟨k,h⟩
 ·exact ht p hp
theorem Borne.told {T:List (Nat×List (List AV×AV))} {f:Nat} {t:List (List AV×AV)} (hT:Told T) (h:Borne T f t):told Tryz.prog f (q6r t):=k0n (v6t hT) j5k (x7c (by kernel_rfl)) v6s h
theorem z3w:Told []:=fun p hp=>by cases hp
theorem Told.snoc {T:List (Nat×List (List AV×AV))} {f:Nat} {t:List (List AV×AV)} (hT:Told T) (h:Am.told Tryz.prog f (q6r t)):Told ((f,t)::T):=fun p hp=>by
 rcases List.mem_cons.1 hp with rfl | hp
 ·exact h
 ·exact hT p hp
section
namespace Tw
def c0:AV:=(.str [40,100,101,99,108,97,114,101,45,102,117,110,32,80,32,40,73,110,116,41,32,66,111,111,108,41,40,100,101,99,108,97,114,101,45,102,117,110,32,81,32,40,73,110,116,41,32,66,111,111,108,41,40,97,115,115,101,114,116,32,40,80,32,48,41,41,32,40,97,115,115,101,114,116,32,40,102,111,114,97,108,108,32,40,40,120,32,73,110,116,41,41,32,40,61,62,32,40,80,32,120,41,32,40,81,32,120,41,41,41,41,32,40,97,115,115,101,114,116,32,40,102,111,114,97,108,108,32,40,40,120,32,73,110,116,41,41,32,40,61,62,32,40,97,110,100,32,40,80,32,120,41,32,40,60,32,120,32,48,41,41,32,102,97,108,115,101,41,41,41])
def c1:AV:= .agg [(.int .i64 5),(.str []),(.int .i64 4),(.int .i64 0)]
def c2:AV:=(.str [100,101,99,108,97,114,101,45,102,117,110])
def c3:AV:= .agg [(.int .i64 1),c2,(.int .i64 0),(.int .i64 1)]
def c4:AV:= .agg [(.int .i64 1),(.str [80]),(.int .i64 0),(.int .i64 13)]
def c5:AV:= .agg [(.int .i64 5),(.str []),(.int .i64 1),(.int .i64 15)]
def c6:AV:= .agg [(.int .i64 1),(.str [73,110,116]),(.int .i64 0),(.int .i64 16)]
def c7:AV:=(.str [66,111,111,108])
def c8:AV:= .agg [(.int .i64 1),c7,(.int .i64 0),(.int .i64 21)]
def c9:AV:= .agg [(.int .i64 5),(.str []),(.int .i64 4),(.int .i64 26)]
def c10:AV:= .agg [(.int .i64 1),c2,(.int .i64 0),(.int .i64 27)]
def c11:AV:= .agg [(.int .i64 1),(.str [81]),(.int .i64 0),(.int .i64 39)]
def c12:AV:= .agg [(.int .i64 5),(.str []),(.int .i64 1),(.int .i64 41)]
def c13:AV:= .agg [(.int .i64 1),(.str [73,110,116]),(.int .i64 0),(.int .i64 42)]
def c14:AV:= .agg [(.int .i64 1),c7,(.int .i64 0),(.int .i64 47)]
def c15:AV:= .agg [(.int .i64 5),(.str []),(.int .i64 2),(.int .i64 52)]
def c16:AV:=(.str [97,115,115,101,114,116])
def c17:AV:= .agg [(.int .i64 1),c16,(.int .i64 0),(.int .i64 53)]
def c18:AV:= .agg [(.int .i64 5),(.str []),(.int .i64 2),(.int .i64 60)]
def c19:AV:= .agg [(.int .i64 1),(.str [80]),(.int .i64 0),(.int .i64 61)]
def c20:AV:= .agg [(.int .i64 2),(.str [48]),(.int .i64 0),(.int .i64 63)]
def c21:AV:= .agg [(.int .i64 5),(.str []),(.int .i64 2),(.int .i64 67)]
def c22:AV:= .agg [(.int .i64 1),c16,(.int .i64 0),(.int .i64 68)]
def c23:AV:= .agg [(.int .i64 5),(.str []),(.int .i64 3),(.int .i64 75)]
def c24:AV:=(.str [102,111,114,97,108,108])
def c25:AV:= .agg [(.int .i64 1),c24,(.int .i64 0),(.int .i64 76)]
def c26:AV:= .agg [(.int .i64 5),(.str []),(.int .i64 1),(.int .i64 83)]
def c27:AV:= .agg [(.int .i64 5),(.str []),(.int .i64 2),(.int .i64 84)]
def c28:AV:= .agg [(.int .i64 1),(.str [120]),(.int .i64 0),(.int .i64 85)]
def c29:AV:= .agg [(.int .i64 1),(.str [73,110,116]),(.int .i64 0),(.int .i64 87)]
def c30:AV:= .agg [(.int .i64 5),(.str []),(.int .i64 3),(.int .i64 93)]
def c31:AV:= .agg [(.int .i64 1),(.str [61,62]),(.int .i64 0),(.int .i64 94)]
def c32:AV:= .agg [(.int .i64 5),(.str []),(.int .i64 2),(.int .i64 97)]
def c33:AV:= .agg [(.int .i64 1),(.str [80]),(.int .i64 0),(.int .i64 98)]
def c34:AV:= .agg [(.int .i64 1),(.str [120]),(.int .i64 0),(.int .i64 100)]
def c35:AV:= .agg [(.int .i64 5),(.str []),(.int .i64 2),(.int .i64 103)]
def c36:AV:= .agg [(.int .i64 1),(.str [81]),(.int .i64 0),(.int .i64 104)]
def c37:AV:= .agg [(.int .i64 1),(.str [120]),(.int .i64 0),(.int .i64 106)]
def c38:AV:= .agg [(.int .i64 5),(.str []),(.int .i64 2),(.int .i64 112)]
def c39:AV:= .agg [(.int .i64 1),c16,(.int .i64 0),(.int .i64 113)]
def c40:AV:= .agg [(.int .i64 5),(.str []),(.int .i64 3),(.int .i64 120)]
def c41:AV:= .agg [(.int .i64 1),c24,(.int .i64 0),(.int .i64 121)]
def c42:AV:= .agg [(.int .i64 5),(.str []),(.int .i64 1),(.int .i64 128)]
def c43:AV:= .agg [(.int .i64 5),(.str []),(.int .i64 2),(.int .i64 129)]
def c44:AV:= .agg [(.int .i64 1),(.str [120]),(.int .i64 0),(.int .i64 130)]
def c45:AV:= .agg [(.int .i64 1),(.str [73,110,116]),(.int .i64 0),(.int .i64 132)]
def c46:AV:= .agg [(.int .i64 5),(.str []),(.int .i64 3),(.int .i64 138)]
def c47:AV:= .agg [(.int .i64 1),(.str [61,62]),(.int .i64 0),(.int .i64 139)]
def c48:AV:= .agg [(.int .i64 5),(.str []),(.int .i64 3),(.int .i64 142)]
def c49:AV:= .agg [(.int .i64 1),(.str [97,110,100]),(.int .i64 0),(.int .i64 143)]
def c50:AV:= .agg [(.int .i64 5),(.str []),(.int .i64 2),(.int .i64 147)]
def c51:AV:= .agg [(.int .i64 1),(.str [80]),(.int .i64 0),(.int .i64 148)]
def c52:AV:= .agg [(.int .i64 1),(.str [120]),(.int .i64 0),(.int .i64 150)]
def c53:AV:= .agg [(.int .i64 5),(.str []),(.int .i64 3),(.int .i64 153)]
def c54:AV:= .agg [(.int .i64 1),(.str [60]),(.int .i64 0),(.int .i64 154)]
def c55:AV:= .agg [(.int .i64 1),(.str [120]),(.int .i64 0),(.int .i64 156)]
def c56:AV:= .agg [(.int .i64 2),(.str [48]),(.int .i64 0),(.int .i64 158)]
def c57:AV:=(.str [102,97,108,115,101])
def c58:AV:= .agg [(.int .i64 1),c57,(.int .i64 0),(.int .i64 162)]
def c59:AV:= .sl [c1,c3,c4,c5,c6,c8,c9,c10,c11,c12,c13,c14,c15,c17,c18,c19,c20,c21,c22,c23,c25,c26,c27,c28,c29,c30,c31,c32,c33,c34,c35,c36,c37,c38,c39,c40,c41,c42,c43,c44,c45,c46,c47,c48,c49,c50,c51,c52,c53,c54,c55,c56,c58] .no
def c60:AV:= .tup [c59,(.int .i64 0),(.int .i64 0)]
def c61:AV:= .sl [(.int .i64 0),(.int .i64 6),(.int .i64 12),(.int .i64 17),(.int .i64 33)] .no
def c62:AV:= .sl [(.int .i64 1),(.int .i64 2),(.int .i64 3),(.int .i64 5)] .no
def c63:AV:= .sl [(.int .i64 7),(.int .i64 8),(.int .i64 9),(.int .i64 11)] .no
def c64:AV:= .sl [(.int .i64 13),(.int .i64 14)] .no
def c65:AV:= .sl [(.int .i64 15),(.int .i64 16)] .no
def c66:AV:= .agg [(.int .i64 3),(.int .i64 2),(.str []),(.str [48]),(.int .i64 0)]
def c67:AV:= .sl [c66] .no
def c68:AV:= .agg [(.int .i64 5),(.int .i64 1),(.str [80]),(.str []),(.int .i64 0)]
def c69:AV:= .sl [c67] .no
def c70:AV:= .agg [(.int .i64 5),(.int .i64 1),(.str [80]),(.str []),(.int .i64 1)]
def c71:AV:= .sl [c70,c66] .no
def c72:AV:= .tup [c71,(.int .i64 0)]
def c73:AV:= .agg [(.str [80]),(.sl [(.int .i64 2)] .no),(.int .i64 1)]
def c74:AV:= .agg [(.str [81]),(.sl [(.int .i64 2)] .no),(.int .i64 1)]
def c75:AV:= .sl [c73,c74] .no
def c76:AV:= .tup [c71,(.int .i64 0),(.int .i64 0)]
def c77:AV:= .agg [(.int .i64 1),(.int .i64 0),(.str []),(.str []),(.int .i64 0)]
def c78:AV:= .sl [c77] .no
def c79:AV:= .agg [(.sl [] .no),(.sl [] .no),c78,(.str [80]),c69]
def c80:AV:= .sl [c79] .no
def c81:AV:= .agg [c75,c80]
def c82:AV:= .sl [(.int .i64 18),(.int .i64 19)] .no
def c83:AV:= .sl [(.int .i64 20),(.int .i64 21),(.int .i64 25)] .no
def c84:AV:= .sl [(.int .i64 23),(.int .i64 24)] .no
def c85:AV:= .agg [(.str [120]),(.int .i64 2)]
def c86:AV:= .sl [c85] .no
def c87:AV:= .tup [c86,(.int .i64 0)]
def c88:AV:= .sl [(.int .i64 26),(.int .i64 27),(.int .i64 30)] .no
def c89:AV:= .sl [(.int .i64 28),(.int .i64 29)] .no
def c90:AV:= .agg [(.int .i64 4),(.int .i64 2),(.str [120]),(.str []),(.int .i64 0)]
def c91:AV:= .sl [c90] .no
def c92:AV:= .sl [c91] .no
def c93:AV:= .sl [c70,c90] .no
def c94:AV:= .tup [c93,(.int .i64 0)]
def c95:AV:= .sl [(.int .i64 31),(.int .i64 32)] .no
def c96:AV:= .agg [(.int .i64 5),(.int .i64 1),(.str [81]),(.str []),(.int .i64 0)]
def c97:AV:= .agg [(.int .i64 5),(.int .i64 1),(.str [81]),(.str []),(.int .i64 1)]
def c98:AV:= .sl [c97,c90] .no
def c99:AV:= .tup [c98,(.int .i64 0)]
def y3g:AV:= .agg [(.int .i64 9),(.int .i64 0),(.str []),(.str []),(.int .i64 0)]
def y5r:AV:= .sl [c93,c98] .no
def y3h:AV:= .agg [(.int .i64 9),(.int .i64 0),(.str []),(.str []),(.int .i64 2)]
def w7i:AV:= .sl [y3h,c70,c90,c97,c90] .no
def y5s:AV:= .tup [w7i,(.int .i64 0)]
def y5t:AV:= .tup [w7i,(.int .i64 0),(.int .i64 0)]
def y5u:AV:= .agg [(.str [80]),c92]
def y3i:AV:= .sl [y5u] .no
def y3j:AV:= .agg [c86,y3i,c78,(.str [81]),c92]
def y5v:AV:= .sl [y3j] .no
def y5w:AV:= .agg [c75,y5v]
def y5x:AV:= .sl [(.int .i64 34),(.int .i64 35)] .no
def y5y:AV:= .sl [(.int .i64 36),(.int .i64 37),(.int .i64 41)] .no
def y5z:AV:= .sl [(.int .i64 39),(.int .i64 40)] .no
def y6a:AV:= .sl [(.int .i64 42),(.int .i64 43),(.int .i64 52)] .no
def y6b:AV:= .sl [(.int .i64 44),(.int .i64 45),(.int .i64 48)] .no
def y6c:AV:= .sl [(.int .i64 46),(.int .i64 47)] .no
def y6d:AV:= .sl [(.int .i64 49),(.int .i64 50),(.int .i64 51)] .no
def y6e:AV:= .agg [(.int .i64 13),(.int .i64 0),(.str []),(.str []),(.int .i64 0)]
def y6f:AV:= .sl [c91,c67] .no
def w7j:AV:= .agg [(.int .i64 13),(.int .i64 0),(.str []),(.str []),(.int .i64 2)]
def w6e:AV:= .sl [w7j,c90,c66] .no
def y6g:AV:= .tup [w6e,(.int .i64 0)]
def y6h:AV:= .agg [(.int .i64 7),(.int .i64 0),(.str []),(.str []),(.int .i64 0)]
def y6i:AV:= .sl [c93,w6e] .no
def y3k:AV:= .agg [(.int .i64 7),(.int .i64 0),(.str []),(.str []),(.int .i64 2)]
def w7k:AV:= .sl [y3k,c70,c90,w7j,c90,c66] .no
def y6j:AV:= .tup [w7k,(.int .i64 0)]
def y3l:AV:= .agg [(.int .i64 2),(.int .i64 0),(.str []),(.str []),(.int .i64 0)]
def y3m:AV:= .sl [y3l] .no
def y6k:AV:= .sl [w7k,y3m] .no
def w7l:AV:= .sl [y3h,y3k,c70,c90,w7j,c90,c66,y3l] .no
def y6l:AV:= .tup [w7l,(.int .i64 0)]
def y6m:AV:= .tup [w7l,(.int .i64 0),(.int .i64 0)]
def w7m:AV:= .agg [c86,y3i,w6e,(.str []),(.sl [] .no)]
def y6n:AV:= .sl [w7m] .no
def y6o:AV:= .agg [c75,y6n]
def y6p:AV:= .sl [c79,y3j,w7m] .no
def y3n:AV:= .agg [c75,y6p]
def y3o:AV:= .agg [(.int .i64 2),(.str []),(.str []),(.int .i64 0),(.int .i64 0),(.sl [(.str [81])] .no),(.sl [] .no),(.sl [] .no)]
def y6q:AV:= .tup [y3o,(.int .i64 0)]
def y6r:AV:= .sl [c73] .no
def y6s:AV:= .sl [c79,w7m] .no
def y3p:AV:= .agg [y6r,y6s]
def y6t:AV:= .tup [y3p,(.int .i64 0)]
def v6u:List AV×AV:=([c0],c60)
def t54:List (List AV×AV):=[v6u]
def v6v:List AV×AV:=([c59],c61)
def t55:List (List AV×AV):=[v6v]
def v6w:List AV×AV:=([c59,(.int .i64 0)],c62)
def v6x:List AV×AV:=([c59,(.int .i64 3)],(.sl [(.int .i64 4)] .no))
def v6y:List AV×AV:=([c59,(.int .i64 6)],c63)
def v6z:List AV×AV:=([c59,(.int .i64 9)],(.sl [(.int .i64 10)] .no))
def v7a:List AV×AV:=([c59,(.int .i64 12)],c64)
def v7b:List AV×AV:=([c59,(.int .i64 14)],c65)
def v7c:List AV×AV:=([c59,(.int .i64 17)],c82)
def v7d:List AV×AV:=([c59,(.int .i64 19)],c83)
def v7e:List AV×AV:=([c59,(.int .i64 21)],(.sl [(.int .i64 22)] .no))
def v7f:List AV×AV:=([c59,(.int .i64 22)],c84)
def k4s:List AV×AV:=([c59,(.int .i64 25)],c88)
def k4t:List AV×AV:=([c59,(.int .i64 27)],c89)
def k4u:List AV×AV:=([c59,(.int .i64 30)],c95)
def k4v:List AV×AV:=([c59,(.int .i64 33)],y5x)
def k4w:List AV×AV:=([c59,(.int .i64 35)],y5y)
def k4x:List AV×AV:=([c59,(.int .i64 37)],(.sl [(.int .i64 38)] .no))
def k4y:List AV×AV:=([c59,(.int .i64 38)],y5z)
def k4z:List AV×AV:=([c59,(.int .i64 41)],y6a)
def k5a:List AV×AV:=([c59,(.int .i64 43)],y6b)
def k5b:List AV×AV:=([c59,(.int .i64 45)],y6c)
def k5c:List AV×AV:=([c59,(.int .i64 48)],y6d)
def t56:List (List AV×AV):=[v6w,v6x,v6y,v6z,v7a,v7b,v7c,v7d,v7e,v7f,k4s,k4t,k4u,k4v,k4w,k4x,k4y,k4z,k5a,k5b,k5c]
def k5d:List AV×AV:=([c67],(.int .i64 2))
def k5e:List AV×AV:=([c71],(.int .i64 1))
def k5f:List AV×AV:=([c78],(.int .i64 1))
def k5g:List AV×AV:=([c91],(.int .i64 2))
def k5h:List AV×AV:=([c93],(.int .i64 1))
def k5i:List AV×AV:=([c98],(.int .i64 1))
def k5j:List AV×AV:=([w7i],(.int .i64 1))
def k5k:List AV×AV:=([w6e],(.int .i64 1))
def k5l:List AV×AV:=([w7k],(.int .i64 1))
def k5m:List AV×AV:=([y3m],(.int .i64 1))
def j5l:List AV×AV:=([w7l],(.int .i64 1))
def y3q:List (List AV×AV):=[k5d,k5e,k5f,k5g,k5h,k5i,k5j,k5k,k5l,k5m,j5l]
def v7g:List AV×AV:=([y3n],y6q)
def t21:List (List AV×AV):=[v7g]
def v7h:List AV×AV:=([y3n,y3o],y6t)
def t24:List (List AV×AV):=[v7h]
def k5n:List AV×AV:=([c68,c69],c72)
def k5o:List AV×AV:=([c68,c92],c94)
def k5p:List AV×AV:=([c96,c92],c99)
def k5q:List AV×AV:=([y3g,y5r],y5s)
def k5r:List AV×AV:=([y6e,y6f],y6g)
def k5s:List AV×AV:=([y6h,y6i],y6j)
def k5t:List AV×AV:=([y3g,y6k],y6l)
def y3r:List (List AV×AV):=[k5n,k5o,k5p,k5q,k5r,k5s,k5t]
def k5u:List AV×AV:=([c59,(.int .i64 21)],c87)
def k5v:List AV×AV:=([c59,(.int .i64 37)],c87)
def y3s:List (List AV×AV):=[k5u,k5v]
def v7i:List AV×AV:=([c81],(.bool true))
def v7j:List AV×AV:=([y5w],(.bool true))
def v7k:List AV×AV:=([y6o],(.bool true))
def v7l:List AV×AV:=([y3p],(.bool true))
def t28:List (List AV×AV):=[v7i,v7j,v7k,v7l]
def k5w:List AV×AV:=([c59,(.int .i64 14),(.sl [] .no),c75],c76)
def k5x:List AV×AV:=([c59,(.int .i64 25),c86,c75],y5t)
def k5y:List AV×AV:=([c59,(.int .i64 41),c86,c75],y6m)
def y3t:List (List AV×AV):=[k5w,k5x,k5y]
end Tw
open Tw
def tw1:List (Nat×List (List AV×AV)):=(35,t54)::(36,t55)::(37,t56)::(81,y3q)::(8,t21)::(12,t24)::[]
def tw2:List (Nat×List (List AV×AV)):=(188,y3r)::(78,y3s)::(16,t28)::tw1
def tw3:List (Nat×List (List AV×AV)):=(80,y3t)::tw2
end
end Go.Proofs.YtmkblnlafljljaaGreatDoor.Am
