/- Functions that are told: slices Programs whose functions are told by tables What the functions answer that awake calls -/
import Derived.Lib.Bytealg
import Derived.Laws.Externs
import Derived.Test.YtkollgjffkdliaaGreatDoorM07
open Bool renaming false_eq_true → y6,not_true → z7
open List renaming mem_cons → y3
open Nat renaming le_refl → j8
set_option linter.all false
namespace Go.Proofs.YtkollgjffkdliaaGreatDoor
open Go Go.RowKit
namespace Am
set_option maxRecDepth 100000
noncomputable def j9h:AProg where
 fn f:=cFun Tryz.prog x5c {byref:=[0]} (real f)
 ext _:=none
 iters:=[]
theorem u2a:ProgOk Tryz.prog x5c j9h:=⟨fun f af h=>⟨_,h⟩,fun f sem h=>by cases h⟩
theorem k2z:q1t Tryz.prog x5c:=by
 intro f k hk G I w x cx hr hx himm
 unfold x5c at hk
 split at hk
 ·rename_i hf
  injection hk with hk
  subst hf;subst hk
  exact k2c hr hx himm
 ·cases hk
theorem u2b:q1b Tryz.prog j9h:=fun k hk=>by simp[j9h] at hk
def z9f (z:AV) (esz b:Nat):AFun:=
 {ntmps:=8,nslots:=2,results:=[.tmp 2],byref:=[0],owned:=false,
  body:=(.seq (.region 1 [⟨(some 2), .move (.const (.sl [] .nil)),none⟩] []) (.seq (.seq (.region 2 [⟨(some 3), .move (.tmp 0),none⟩,⟨(some 4), .binOp .eql .sl (.tmp 3) (.const (.sl [] .nil)),none⟩] []) (.cond (.tmp 4) (.seq (.region 1 [⟨(some 2), .move (.const (.sl [] .nil)),none⟩] []) .ret) .skip)) (.seq (.region 4 [⟨(some 5), .buildSlice 0 false z 0 [],none⟩,⟨(some 6), .move (.tmp 0),none⟩,⟨(some 7), .append 1 esz b false (.tmp 5) (.tmp 6),none⟩,⟨(some 2), .move (.tmp 7),none⟩] []) .ret)))}
theorem u2c:j9h.fn 90=some (z9f (.int .i64 0) 1 8):=by kernel_rfl
theorem u2d:j9h.fn 91=some (z9f (.agg [(.str []),(.int .i64 0)]) 2 24):=by kernel_rfl
theorem u2e:j9h.fn 92=some (z9f (.agg [(.int .i64 0),(.int .i64 0),(.str []),(.str []),(.int .i64 0)]) 5 56):=by kernel_rfl
theorem u2f {base g k clk:Nat} {ts:Tmps} {h:List AObj} {z:AV} {dst:Nat} {os:List AOper} {ks:List Kf} {Q:Post} (hz:z.def? =true):O j9h base .plain g (⟨some dst, .buildSlice k false z 0 [],none⟩::os) ⟨ts,h,clk⟩ ks Q=O j9h base .plain (g + 1) os ⟨upd ts dst (.sl [] .full),h,clk⟩ ks Q:=by
 rw[q4m rfl]
 have:prim h base g ts (.buildSlice k false z 0 [])=some (.sl [] .full,h):=by
  simp only[prim,hz,z7,y6,if_false,List.map_nil,z8k,z3x,freezeAll]
  rfl
 rw[this]
 rfl
theorem k8s {f esz b:Nat} {z:AV} {xs:List AV} (hf:j9h.fn f=some (z9f z esz b)) (hz:z.def? =true) (h1:z0n esz xs=true) (h3:idsL xs=[]) (h2:xs.length * (b + 1)≤2 ^ 46):∃ k,z5c j9h k f [.sl xs .nn] [] 0=some (.sl xs .no,[],0):=by
 have hext:j9h.ext f=none:=rfl
 have heq:∀ h,z7i h .eql .sl (.sl xs .nn) (.sl [] .nil)=some (.bool false,h):=fun h=>by cases xs <;> rfl
 have hgt:¬ (([]:List AV).length + xs.length) * (b + 1) > z1e:=by unfold z1e;simp;omega
 have happ:∀ h s g,z0r h s g esz b false (.sl [] .full) (.sl xs .nn)=some (.sl xs (.at s g),h.set s (.tip g esz)):=fun h s g=>by
  have ha:z0n esz []=true:=rfl
  unfold z0r
  simp only[z4o,h1,ha,z7,y6,if_false,decide_eq_true_eq,hgt,Bool.or_false,List.nil_append]
 have hp:z1i [] [0] 0 [.sl xs .nn]=some [.sl xs .nn]:=by simp[z1i]
 have hl:z0p [0] 0 [.sl xs .nn]=[]:=by simp[z0p]
 have hids:idsL [.sl xs .nn]=[]:=by simp[idsL,AV.ids,h3]
 have hK:K j9h 0 (z9f z esz b).body [] ⟨q0u [.sl xs .nn],[.dead, .dead],0⟩ (fun e s=>e= .ret∧∃ g,s.ts 2= .sl xs (.at 1 g)):=by
  simp only[go_sem,z9f,heq,u2f hz,happ,Nat.zero_add]
  exact⟨trivial,_,rfl⟩
 obtain⟨k,e,s,he,rfl,g,hs2⟩:=hK
 refine⟨k, ?_⟩
 unfold z5c z0o
 have hrep:maskFrom [] 0 ([]:List AObj)++List.replicate (z9f z esz b).nslots .dead=[.dead, .dead]:=rfl
 simp only[hext,hf,show (z9f z esz b).byref=[0] from rfl,hp,hl,hids,reach,freezeAll,List.length_nil,hrep,he,show (z9f z esz b).results=[.tmp 2] from rfl,z1y,Option.map_some,hs2,z1j,show (z9f z esz b).owned=false from rfl,y6,if_false,conv]
 have hobs:(AV.sl xs (.at 1 g)).obs=[]:=rfl
 simp[hobs,freezeAll,AV.ids,h3]
 cases s.h <;> rfl
theorem q6t {f esz b:Nat} {z:AV} {fn:Func} {c:Code} (hfn:j9h.fn f=some (z9f z esz b)) (hz:z.def? =true)
  (hnil:∀ n c w,Calls Tryz.prog f #[.slice none n c] w fun e w'=>e= .returned (.slice none 0 0)∧w'=w) (hf:Tryz.prog.funcs[f]? =some fn) (hb:fn.body=some c) (hn:fn.name≠ "runtime.NumGoroutine") (hr:real f=f):told Tryz.prog f (z5e esz b):=by
 intro az v hv G I w cargs hargs himm _
 rw[hr]
 obtain⟨xs,t,rfl⟩:∃ xs t,az=[.sl xs t]:=by
  unfold z5e at hv
  split at hv
  ·exact⟨_,_,rfl⟩
  ·cases hv
 simp only[z5e] at hv
 split at hv
 ·rename_i hc
  injection hv with hv
  subst hv
  obtain⟨h1,h3,h2⟩:=hc
  rw[List.isEmpty_iff] at h3
  simp only[VRL] at hargs
  obtain⟨cv,ws,hcv,hx,rfl⟩:=hargs
  obtain rfl:cargs= #[cv]:=by
   cases cargs
   simp_all
  simp only[VR] at hx
  obtain⟨A,n,cc,rfl,hlen,hnc,_,hrow⟩:=hx
  cases A with
  | none=>
    intro o a next Q hnx
    rw[z6i hf hb hn,Oper.upon_enter]
    refine (hnil n cc w).mono ?_
    rintro e w' ⟨rfl,rfl⟩
    refine hnx _ _ ⟨I,ILe.refl _, ?_,fun _ _ h=>h,rfl,rfl,rfl,j8 _,fun _ _ _ h=> .inl h⟩
    have hn0:n=0:=by
     rcases hrow with h | ⟨_,_,_,h,_⟩
     ·exact h
     ·cases h
    have:xs=[]:=List.length_eq_zero_iff.1 (by omega)
    subst this
    simp only[VR]
    exact⟨none,0,0,rfl,rfl,j8 _,trivial, .inl rfl⟩
  | some A=>
    have hargs0:VRL (fun _=>none) I [.sl xs .nn] [Value.slice (some A) n cc]:=by
     refine VRL.keep (n:=0) (G:=G) q3b (by simp[idsL,AV.ids,h3]) ?_
     simp only[VRL,VR]
     exact⟨_,_,rfl,⟨_,_,_,rfl,hlen,hnc,by simp[TipR],hrow⟩,rfl⟩
    obtain⟨k,hk⟩:=k8s hfn hz h1 h3 h2
    intro o a next Q hnx
    have hsc:=q6q u2a k2z (j1y (by kernel_rfl)) u2b k f [.sl xs .nn] [] 0 _ _ _ hk (fun _=>none) I w #[Value.slice (some A) n cc] hargs0 ⟨himm,fun i o ho=>by simp at ho,fun i j oi oj b hi=>by simp at hi⟩ (fun _ _=>rfl)
    rw[hr] at hsc
    refine hsc o a next Q fun cv w' he=>hnx cv w' ?_
    obtain⟨G',I',hv',hran,_⟩:=he
    refine⟨I',hran.ile,VR.keep (n:=0) q3b (by simp[AV.ids,h3]) hv',fun b y hy=> ?_,hran.fr.os,hran.fr.tape,hran.fr.output,hran.fr.size,fun b o v hv=> ?_⟩
    ·have hb:b < w.heap.size:=(Array.getElem?_eq_some_iff.1 hy).1
     rw[hran.fr.kept b hb fun i o hi=>by simp at hi]
     exact hy
    ·rcases Nat.lt_or_ge b w.heap.size with hb | hb
     ·exact .inl (hran.ifr b hb (fun i o hi=>by simp at hi) o v hv)
     ·exact .inr ⟨hb,hran.rel.imm b o v hv⟩
 ·cases hv
theorem k8t (n c:Nat) (w:World):(binOp BinOp.eql 22 (Value.slice none n c) (Value.slice none 0 0)).run Tryz.prog w= .ok (.bool true) w:=by
 rfl
theorem k8u (n c:Nat) (w:World):(binOp BinOp.eql 59 (Value.slice none n c) (Value.slice none 0 0)).run Tryz.prog w= .ok (.bool true) w:=by
 rfl
theorem k8v (n c:Nat) (w:World):(binOp BinOp.eql 61 (Value.slice none n c) (Value.slice none 0 0)).run Tryz.prog w= .ok (.bool true) w:=by
 rfl
theorem u2g (n c:Nat) (w:World):Calls Tryz.prog 90 #[.slice none n c] w fun e w'=>e= .returned (.slice none 0 0)∧w'=w:=by
 go_enter Tryz.func90,Tryz.ntmps90
 go_wp2
 rw[k8t]
 go_wp2
 go_ret
 exact⟨rfl,rfl⟩
theorem u2h (n c:Nat) (w:World):Calls Tryz.prog 91 #[.slice none n c] w fun e w'=>e= .returned (.slice none 0 0)∧w'=w:=by
 go_enter Tryz.func91,Tryz.ntmps91
 go_wp2
 rw[k8u]
 go_wp2
 go_ret
 exact⟨rfl,rfl⟩
theorem u2i (n c:Nat) (w:World):Calls Tryz.prog 92 #[.slice none n c] w fun e w'=>e= .returned (.slice none 0 0)∧w'=w:=by
 go_enter Tryz.func92,Tryz.ntmps92
 go_wp2
 rw[k8v]
 go_wp2
 go_ret
 exact⟨rfl,rfl⟩
theorem w8r:told Tryz.prog 90 (z5e 1 8):=q6t u2c rfl u2g Tryz.func90 rfl (by decide) rfl
theorem w8s:told Tryz.prog 91 (z5e 2 24):=q6t u2d rfl u2h Tryz.func91 rfl (by decide) rfl
theorem w8t:told Tryz.prog 92 (z5e 5 56):=q6t u2e rfl u2i Tryz.func92 rfl (by decide) rfl
theorem u2j {a c:Nat} (ha:a < 256) (hc:c < 256):(UInt8.ofNat a==c.toUInt8)=decide ((a:Int)=(c:Int)):=by
 rw[Bool.eq_iff_iff,z04,beq_iff_eq]
 constructor
 ·intro h
  have:=congrArg UInt8.toNat h
  simp at this
  omega
 ·intro h
  have:a=c:=by omega
  subst this
  rfl
theorem j4s {c:Nat} (hc:c < 256):∀ {s:List Nat},(∀ b∈s,b < 256)→Lib.indexByte (s.map UInt8.ofNat) c.toUInt8=(match s.findIdx? (fun (b:Nat)=>decide ((b:Int)=(c:Int))) with | some i=>(i:Int) | none=> -1)
 | [],_=>rfl
 | a::s,h=>by
   have ih:=j4s hc (s:=s) fun b hb=>h b (List.mem_cons_of_mem _ hb)
   have ha:=u2j (h a List.mem_cons_self) hc
   rw[List.map_cons,Lib.indexByte,ha,ih,List.findIdx?_cons]
   by_cases hd:(a:Int)=(c:Int)
   ·simp[hd]
   ·cases hs:s.findIdx? (fun (b:Nat)=>decide ((b:Int)=(c:Int))) with
    | none=>simp[hd,hs]
    | some i=>
      have:((i:Int)== -1)=false:=by simp
      simp[hd,this]
theorem w0u:told Tryz.prog 354 x3a:=by
 intro az v hv G I w cargs hargs himm _
 rw[show real 354=354 from rfl]
 obtain⟨s,c,rfl⟩:∃ s c,az=[.str s, .int .u8 c]:=by
  unfold x3a at hv
  split at hv
  ·exact⟨_,_,rfl⟩
  ·cases hv
 simp only[x3a] at hv
 split at hv
 ·rename_i hc
  injection hv with hv
  subst hv
  simp only[VRL,VR] at hargs
  obtain⟨v1,w1,h1,⟨rfl,hb⟩,v2,w2,rfl,rfl,rfl⟩:=hargs
  obtain rfl:cargs= #[.string (z8m s), .int .u8 c]:=by
   cases cargs
   simp_all
  intro o a next Q hnx
  rw[run_callFunc_extern (fn:=Tryz.f354) Tryz.func354 (by kernel_rfl) (by kernel_rfl) (by kernel_rfl) (e:=Extern.BytealgIndexByte.indexByte) (by kernel_rfl),Lib.run_indexByteString]
  simp only[Result.andThen]
  rw[Oper.upon_value]
  refine hnx _ _ ⟨I,ILe.refl _, ?_,fun _ _ h=>h,rfl,rfl,rfl,j8 _,fun _ _ _ h=> .inl h⟩
  simp only[VR]
  obtain⟨n,rfl⟩:∃ n:Nat,c=(n:Int):=⟨c.toNat,by omega⟩
  have hn:n < 256:=by omega
  have:=j4s hn hb
  simp only[Int.toNat_natCast,z8m]
  rw[this]
  rfl
 ·cases hv
end Am
end Go.Proofs.YtkollgjffkdliaaGreatDoor
namespace Go.Proofs.YtkollgjffkdliaaGreatDoor.Am
open Go
set_option maxRecDepth 100000
noncomputable def z2j (T:List (Nat×List (List AV×AV))):AProg where
 fn f:=cFun Tryz.prog x5c (w7f f) (real f)
 ext f:=match u1q f with
  | some sem=>some sem
  | none=>(T.find? fun p=>p.1==f).map fun p=>z8l p.2
 iters:=[294]
theorem u8v:Gam=z2j w7e:=rfl
theorem w8u {T:List (Nat×List (List AV×AV))}:q1b Tryz.prog (z2j T):=by
 intro k hk
 obtain rfl:k=294:=by simpa [z2j] using hk
 exact⟨k2b,fun args w=>z6i Tryz.func294 rfl (by decide)⟩
def Told (T:List (Nat×List (List AV×AV))):Prop:=∀ p∈T,told Tryz.prog p.1 (z8l p.2)
theorem w8v {T:List (Nat×List (List AV×AV))} (h:Told T):ProgOk Tryz.prog x5c (z2j T):=by
 refine⟨fun f af h=>⟨_,h⟩,fun f sem hs=> ?_⟩
 have main:told Tryz.prog f sem:=by
  simp only[z2j,u1q] at hs
  split at hs
  ·rename_i he
   injection hs with hs
   subst hs
   split at he
   ·rename_i h1;injection he with he;subst h1;subst he;exact w8r
   split at he
   ·rename_i h1;injection he with he;subst h1;subst he;exact w8s
   split at he
   ·rename_i h1;injection he with he;subst h1;subst he;exact w8t
   split at he
   ·rename_i h1;injection he with he;subst h1;subst he;exact w0u
   ·cases he
  ·rw[Option.map_eq_some_iff] at hs
   obtain⟨p,hp,rfl⟩:=hs
   have h1:p.1=f:=by simpa using List.find?_some hp
   subst h1
   exact h p (List.mem_of_find?_eq_some hp)
 exact main
def Borne (T:List (Nat×List (List AV×AV))) (f:Nat) (t:List (List AV×AV)):Prop:=∀ q∈t,∃ k,chk (z2j T) k f q=true
theorem Borne.nil {T:List (Nat×List (List AV×AV))} {f:Nat}:Borne T f []:=fun q hq=>by cases hq
theorem Borne.cons {T:List (Nat×List (List AV×AV))} {f k:Nat} {q:List AV×AV} {t:List (List AV×AV)} (h:chk (z2j T) k f q=true) (ht:Borne T f t):Borne T f (q::t):=fun p hp=>by
 rcases y3.1 hp with rfl | hp
 ·exact⟨k,h⟩
 ·exact ht p hp
theorem Borne.told {T:List (Nat×List (List AV×AV))} {f:Nat} {t:List (List AV×AV)} (hT:Told T) (h:Borne T f t):told Tryz.prog f (z8l t):=k8a (w8v hT) k2z (j1y (by kernel_rfl)) w8u h
theorem z4h:Told []:=fun p hp=>by cases hp
theorem Told.snoc {T:List (Nat×List (List AV×AV))} {f:Nat} {t:List (List AV×AV)} (hT:Told T) (h:Am.told Tryz.prog f (z8l t)):Told ((f,t)::T):=fun p hp=>by
 rcases y3.1 hp with rfl | hp
 ·exact h
 ·exact hT p hp
section
namespace Tw
def c0:AV:=(.str [40,100,101,99,108,97,114,101,45,102,117,110,32,80,32,40,73,110,116,41,32,66,111,111,108,41,40,100,101,99,108,97,114,101,45,102,117,110,32,81,32,40,73,110,116,41,32,66,111,111,108,41,40,97,115,115,101,114,116,32,40,102,111,114,97,108,108,32,40,40,120,32,73,110,116,41,41,32,40,61,62,32,40,61,32,120,32,48,41,32,40,80,32,120,41,41,41,41,40,97,115,115,101,114,116,32,40,102,111,114,97,108,108,32,40,40,120,32,73,110,116,41,41,32,40,61,62,32,40,61,32,120,32,48,41,32,40,81,32,120,41,41,41,41,40,97,115,115,101,114,116,32,40,102,111,114,97,108,108,32,40,40,120,32,73,110,116,41,41,32,40,61,62,32,40,97,110,100,32,40,80,32,120,41,32,40,81,32,120,41,41,32,102,97,108,115,101,41,41,41])
def c1:AV:= .agg [(.int .i64 5),(.str []),(.int .i64 4),(.int .i64 0)]
def c2:AV:=(.str [100,101,99,108,97,114,101,45,102,117,110])
def c3:AV:= .agg [(.int .i64 1),c2,(.int .i64 0),(.int .i64 1)]
def c4:AV:= .agg [(.int .i64 1),(.str [80]),(.int .i64 0),(.int .i64 13)]
def c5:AV:= .agg [(.int .i64 5),(.str []),(.int .i64 1),(.int .i64 15)]
def c6:AV:= .agg [(.int .i64 1),(.str [73,110,116]),(.int .i64 0),(.int .i64 16)]
def c7:AV:=(.str [66,111,111,108])
def c8:AV:= .agg [(.int .i64 1),c7,(.int .i64 0),(.int .i64 21)]
def c9:AV:= .agg [(.int .i64 5),(.str []),(.int .i64 4),(.int .i64 26)]
def c10:AV:= .agg [(.int .i64 1),c2,(.int .i64 0),(.int .i64 27)]
def c11:AV:= .agg [(.int .i64 1),(.str [81]),(.int .i64 0),(.int .i64 39)]
def c12:AV:= .agg [(.int .i64 5),(.str []),(.int .i64 1),(.int .i64 41)]
def c13:AV:= .agg [(.int .i64 1),(.str [73,110,116]),(.int .i64 0),(.int .i64 42)]
def c14:AV:= .agg [(.int .i64 1),c7,(.int .i64 0),(.int .i64 47)]
def c15:AV:= .agg [(.int .i64 5),(.str []),(.int .i64 2),(.int .i64 52)]
def c16:AV:=(.str [97,115,115,101,114,116])
def c17:AV:= .agg [(.int .i64 1),c16,(.int .i64 0),(.int .i64 53)]
def c18:AV:= .agg [(.int .i64 5),(.str []),(.int .i64 3),(.int .i64 60)]
def c19:AV:=(.str [102,111,114,97,108,108])
def c20:AV:= .agg [(.int .i64 1),c19,(.int .i64 0),(.int .i64 61)]
def c21:AV:= .agg [(.int .i64 5),(.str []),(.int .i64 1),(.int .i64 68)]
def c22:AV:= .agg [(.int .i64 5),(.str []),(.int .i64 2),(.int .i64 69)]
def c23:AV:= .agg [(.int .i64 1),(.str [120]),(.int .i64 0),(.int .i64 70)]
def c24:AV:= .agg [(.int .i64 1),(.str [73,110,116]),(.int .i64 0),(.int .i64 72)]
def c25:AV:= .agg [(.int .i64 5),(.str []),(.int .i64 3),(.int .i64 78)]
def c26:AV:= .agg [(.int .i64 1),(.str [61,62]),(.int .i64 0),(.int .i64 79)]
def c27:AV:= .agg [(.int .i64 5),(.str []),(.int .i64 3),(.int .i64 82)]
def c28:AV:= .agg [(.int .i64 1),(.str [61]),(.int .i64 0),(.int .i64 83)]
def c29:AV:= .agg [(.int .i64 1),(.str [120]),(.int .i64 0),(.int .i64 85)]
def c30:AV:= .agg [(.int .i64 2),(.str [48]),(.int .i64 0),(.int .i64 87)]
def c31:AV:= .agg [(.int .i64 5),(.str []),(.int .i64 2),(.int .i64 90)]
def c32:AV:= .agg [(.int .i64 1),(.str [80]),(.int .i64 0),(.int .i64 91)]
def c33:AV:= .agg [(.int .i64 1),(.str [120]),(.int .i64 0),(.int .i64 93)]
def c34:AV:= .agg [(.int .i64 5),(.str []),(.int .i64 2),(.int .i64 98)]
def c35:AV:= .agg [(.int .i64 1),c16,(.int .i64 0),(.int .i64 99)]
def c36:AV:= .agg [(.int .i64 5),(.str []),(.int .i64 3),(.int .i64 106)]
def c37:AV:= .agg [(.int .i64 1),c19,(.int .i64 0),(.int .i64 107)]
def c38:AV:= .agg [(.int .i64 5),(.str []),(.int .i64 1),(.int .i64 114)]
def c39:AV:= .agg [(.int .i64 5),(.str []),(.int .i64 2),(.int .i64 115)]
def c40:AV:= .agg [(.int .i64 1),(.str [120]),(.int .i64 0),(.int .i64 116)]
def c41:AV:= .agg [(.int .i64 1),(.str [73,110,116]),(.int .i64 0),(.int .i64 118)]
def c42:AV:= .agg [(.int .i64 5),(.str []),(.int .i64 3),(.int .i64 124)]
def c43:AV:= .agg [(.int .i64 1),(.str [61,62]),(.int .i64 0),(.int .i64 125)]
def c44:AV:= .agg [(.int .i64 5),(.str []),(.int .i64 3),(.int .i64 128)]
def c45:AV:= .agg [(.int .i64 1),(.str [61]),(.int .i64 0),(.int .i64 129)]
def c46:AV:= .agg [(.int .i64 1),(.str [120]),(.int .i64 0),(.int .i64 131)]
def c47:AV:= .agg [(.int .i64 2),(.str [48]),(.int .i64 0),(.int .i64 133)]
def c48:AV:= .agg [(.int .i64 5),(.str []),(.int .i64 2),(.int .i64 136)]
def c49:AV:= .agg [(.int .i64 1),(.str [81]),(.int .i64 0),(.int .i64 137)]
def c50:AV:= .agg [(.int .i64 1),(.str [120]),(.int .i64 0),(.int .i64 139)]
def c51:AV:= .agg [(.int .i64 5),(.str []),(.int .i64 2),(.int .i64 144)]
def c52:AV:= .agg [(.int .i64 1),c16,(.int .i64 0),(.int .i64 145)]
def c53:AV:= .agg [(.int .i64 5),(.str []),(.int .i64 3),(.int .i64 152)]
def c54:AV:= .agg [(.int .i64 1),c19,(.int .i64 0),(.int .i64 153)]
def c55:AV:= .agg [(.int .i64 5),(.str []),(.int .i64 1),(.int .i64 160)]
def c56:AV:= .agg [(.int .i64 5),(.str []),(.int .i64 2),(.int .i64 161)]
def c57:AV:= .agg [(.int .i64 1),(.str [120]),(.int .i64 0),(.int .i64 162)]
def c58:AV:= .agg [(.int .i64 1),(.str [73,110,116]),(.int .i64 0),(.int .i64 164)]
def c59:AV:= .agg [(.int .i64 5),(.str []),(.int .i64 3),(.int .i64 170)]
def c60:AV:= .agg [(.int .i64 1),(.str [61,62]),(.int .i64 0),(.int .i64 171)]
def c61:AV:= .agg [(.int .i64 5),(.str []),(.int .i64 3),(.int .i64 174)]
def c62:AV:= .agg [(.int .i64 1),(.str [97,110,100]),(.int .i64 0),(.int .i64 175)]
def c63:AV:= .agg [(.int .i64 5),(.str []),(.int .i64 2),(.int .i64 179)]
def c64:AV:= .agg [(.int .i64 1),(.str [80]),(.int .i64 0),(.int .i64 180)]
def c65:AV:= .agg [(.int .i64 1),(.str [120]),(.int .i64 0),(.int .i64 182)]
def c66:AV:= .agg [(.int .i64 5),(.str []),(.int .i64 2),(.int .i64 185)]
def c67:AV:= .agg [(.int .i64 1),(.str [81]),(.int .i64 0),(.int .i64 186)]
def c68:AV:= .agg [(.int .i64 1),(.str [120]),(.int .i64 0),(.int .i64 188)]
def c69:AV:=(.str [102,97,108,115,101])
def c70:AV:= .agg [(.int .i64 1),c69,(.int .i64 0),(.int .i64 192)]
def c71:AV:= .sl [c1,c3,c4,c5,c6,c8,c9,c10,c11,c12,c13,c14,c15,c17,c18,c20,c21,c22,c23,c24,c25,c26,c27,c28,c29,c30,c31,c32,c33,c34,c35,c36,c37,c38,c39,c40,c41,c42,c43,c44,c45,c46,c47,c48,c49,c50,c51,c52,c53,c54,c55,c56,c57,c58,c59,c60,c61,c62,c63,c64,c65,c66,c67,c68,c70] .no
def c72:AV:= .tup [c71,(.int .i64 0),(.int .i64 0)]
def c73:AV:= .sl [(.int .i64 0),(.int .i64 6),(.int .i64 12),(.int .i64 29),(.int .i64 46)] .no
def c74:AV:= .sl [(.int .i64 1),(.int .i64 2),(.int .i64 3),(.int .i64 5)] .no
def c75:AV:= .sl [(.int .i64 7),(.int .i64 8),(.int .i64 9),(.int .i64 11)] .no
def c76:AV:= .sl [(.int .i64 13),(.int .i64 14)] .no
def c77:AV:= .sl [(.int .i64 15),(.int .i64 16),(.int .i64 20)] .no
def c78:AV:= .sl [(.int .i64 18),(.int .i64 19)] .no
def c79:AV:= .agg [(.str [120]),(.int .i64 2)]
def c80:AV:= .sl [c79] .no
def c81:AV:= .tup [c80,(.int .i64 0)]
def c82:AV:= .sl [(.int .i64 21),(.int .i64 22),(.int .i64 26)] .no
def c83:AV:= .sl [(.int .i64 23),(.int .i64 24),(.int .i64 25)] .no
def c84:AV:= .agg [(.int .i64 4),(.int .i64 2),(.str [120]),(.str []),(.int .i64 0)]
def c85:AV:= .sl [c84] .no
def c86:AV:= .agg [(.int .i64 3),(.int .i64 2),(.str []),(.str [48]),(.int .i64 0)]
def c87:AV:= .sl [c86] .no
def c88:AV:= .agg [(.int .i64 11),(.int .i64 0),(.str []),(.str []),(.int .i64 0)]
def c89:AV:= .sl [c85,c87] .no
def c90:AV:= .agg [(.int .i64 11),(.int .i64 0),(.str []),(.str []),(.int .i64 2)]
def c91:AV:= .sl [c90,c84,c86] .no
def c92:AV:= .tup [c91,(.int .i64 0)]
def c93:AV:= .sl [(.int .i64 27),(.int .i64 28)] .no
def c94:AV:= .agg [(.int .i64 5),(.int .i64 1),(.str [80]),(.str []),(.int .i64 0)]
def c95:AV:= .sl [c85] .no
def c96:AV:= .agg [(.int .i64 5),(.int .i64 1),(.str [80]),(.str []),(.int .i64 1)]
def c97:AV:= .sl [c96,c84] .no
def c98:AV:= .tup [c97,(.int .i64 0)]
def c99:AV:= .agg [(.int .i64 9),(.int .i64 0),(.str []),(.str []),(.int .i64 0)]
def g2e:AV:= .sl [c91,c97] .no
def u2k:AV:= .agg [(.int .i64 9),(.int .i64 0),(.str []),(.str []),(.int .i64 2)]
def u2l:AV:= .sl [u2k,c90,c84,c86,c96,c84] .no
def g2f:AV:= .tup [u2l,(.int .i64 0)]
def u8w:AV:= .agg [(.str [80]),(.sl [(.int .i64 2)] .no),(.int .i64 1)]
def g2g:AV:= .agg [(.str [81]),(.sl [(.int .i64 2)] .no),(.int .i64 1)]
def w0v:AV:= .sl [u8w,g2g] .no
def g2h:AV:= .tup [u2l,(.int .i64 0),(.int .i64 0)]
def u2m:AV:= .agg [c80,(.sl [] .no),c91,(.str [80]),c95]
def g2i:AV:= .sl [u2m] .no
def g2j:AV:= .agg [w0v,g2i]
def g2k:AV:= .sl [(.int .i64 30),(.int .i64 31)] .no
def g2l:AV:= .sl [(.int .i64 32),(.int .i64 33),(.int .i64 37)] .no
def g2m:AV:= .sl [(.int .i64 35),(.int .i64 36)] .no
def g2n:AV:= .sl [(.int .i64 38),(.int .i64 39),(.int .i64 43)] .no
def g2o:AV:= .sl [(.int .i64 40),(.int .i64 41),(.int .i64 42)] .no
def g2p:AV:= .sl [(.int .i64 44),(.int .i64 45)] .no
def g2q:AV:= .agg [(.int .i64 5),(.int .i64 1),(.str [81]),(.str []),(.int .i64 0)]
def u1g:AV:= .agg [(.int .i64 5),(.int .i64 1),(.str [81]),(.str []),(.int .i64 1)]
def u1h:AV:= .sl [u1g,c84] .no
def g2r:AV:= .tup [u1h,(.int .i64 0)]
def g2s:AV:= .sl [c91,u1h] .no
def u2n:AV:= .sl [u2k,c90,c84,c86,u1g,c84] .no
def g2t:AV:= .tup [u2n,(.int .i64 0)]
def g2u:AV:= .tup [u2n,(.int .i64 0),(.int .i64 0)]
def u8x:AV:= .agg [c80,(.sl [] .no),c91,(.str [81]),c95]
def g2v:AV:= .sl [u8x] .no
def g2w:AV:= .agg [w0v,g2v]
def g2x:AV:= .sl [(.int .i64 47),(.int .i64 48)] .no
def g2y:AV:= .sl [(.int .i64 49),(.int .i64 50),(.int .i64 54)] .no
def g2z:AV:= .sl [(.int .i64 52),(.int .i64 53)] .no
def g3a:AV:= .sl [(.int .i64 55),(.int .i64 56),(.int .i64 64)] .no
def g3b:AV:= .sl [(.int .i64 57),(.int .i64 58),(.int .i64 61)] .no
def g3c:AV:= .sl [(.int .i64 59),(.int .i64 60)] .no
def g3d:AV:= .sl [(.int .i64 62),(.int .i64 63)] .no
def g3e:AV:= .agg [(.int .i64 7),(.int .i64 0),(.str []),(.str []),(.int .i64 0)]
def g3f:AV:= .sl [c97,u1h] .no
def u8y:AV:= .agg [(.int .i64 7),(.int .i64 0),(.str []),(.str []),(.int .i64 2)]
def u2o:AV:= .sl [u8y,c96,c84,u1g,c84] .no
def g3g:AV:= .tup [u2o,(.int .i64 0)]
def u8z:AV:= .agg [(.int .i64 2),(.int .i64 0),(.str []),(.str []),(.int .i64 0)]
def u9a:AV:= .sl [u8z] .no
def g3h:AV:= .sl [u2o,u9a] .no
def u2p:AV:= .sl [u2k,u8y,c96,c84,u1g,c84,u8z] .no
def g3i:AV:= .tup [u2p,(.int .i64 0)]
def g3j:AV:= .tup [u2p,(.int .i64 0),(.int .i64 0)]
def g3k:AV:= .agg [(.int .i64 1),(.int .i64 0),(.str []),(.str []),(.int .i64 0)]
def u2q:AV:= .sl [g3k] .no
def u2r:AV:= .agg [(.str [80]),c95]
def g3l:AV:= .agg [(.str [81]),c95]
def g3m:AV:= .sl [u2r,g3l] .no
def u9b:AV:= .agg [c80,g3m,u2q,(.str []),(.sl [] .no)]
def g3n:AV:= .sl [u9b] .no
def g3o:AV:= .agg [w0v,g3n]
def g3p:AV:= .sl [u2m,u8x,u9b] .no
def u9c:AV:= .agg [w0v,g3p]
def u9d:AV:= .agg [(.int .i64 6),(.str [81]),(.str [80]),(.int .i64 0),(.int .i64 0),(.sl [] .no),(.sl [] .no),(.sl [] .no)]
def g3q:AV:= .tup [u9d,(.int .i64 0)]
def g3r:AV:= .sl [u8w] .no
def g3s:AV:= .sl [u2r,u2r] .no
def g3t:AV:= .agg [c80,g3s,u2q,(.str []),(.sl [] .no)]
def g3u:AV:= .sl [u2m,g3t] .no
def u9e:AV:= .agg [g3r,g3u]
def g3v:AV:= .tup [u9e,(.int .i64 0)]
def w8w:List AV×AV:=([c0],c72)
def t54:List (List AV×AV):=[w8w]
def w8x:List AV×AV:=([c71],c73)
def t55:List (List AV×AV):=[w8x]
def w8y:List AV×AV:=([c71,(.int .i64 0)],c74)
def w8z:List AV×AV:=([c71,(.int .i64 3)],(.sl [(.int .i64 4)] .no))
def w9a:List AV×AV:=([c71,(.int .i64 6)],c75)
def w9b:List AV×AV:=([c71,(.int .i64 9)],(.sl [(.int .i64 10)] .no))
def w9c:List AV×AV:=([c71,(.int .i64 12)],c76)
def w9d:List AV×AV:=([c71,(.int .i64 14)],c77)
def w9e:List AV×AV:=([c71,(.int .i64 16)],(.sl [(.int .i64 17)] .no))
def w9f:List AV×AV:=([c71,(.int .i64 17)],c78)
def w9g:List AV×AV:=([c71,(.int .i64 20)],c82)
def w9h:List AV×AV:=([c71,(.int .i64 22)],c83)
def v4r:List AV×AV:=([c71,(.int .i64 26)],c93)
def v4s:List AV×AV:=([c71,(.int .i64 29)],g2k)
def v4t:List AV×AV:=([c71,(.int .i64 31)],g2l)
def v4u:List AV×AV:=([c71,(.int .i64 33)],(.sl [(.int .i64 34)] .no))
def v4v:List AV×AV:=([c71,(.int .i64 34)],g2m)
def v4w:List AV×AV:=([c71,(.int .i64 37)],g2n)
def v4x:List AV×AV:=([c71,(.int .i64 39)],g2o)
def v4y:List AV×AV:=([c71,(.int .i64 43)],g2p)
def v4z:List AV×AV:=([c71,(.int .i64 46)],g2x)
def v5a:List AV×AV:=([c71,(.int .i64 48)],g2y)
def v5b:List AV×AV:=([c71,(.int .i64 50)],(.sl [(.int .i64 51)] .no))
def v5c:List AV×AV:=([c71,(.int .i64 51)],g2z)
def v5d:List AV×AV:=([c71,(.int .i64 54)],g3a)
def v5e:List AV×AV:=([c71,(.int .i64 56)],g3b)
def v5f:List AV×AV:=([c71,(.int .i64 58)],g3c)
def v5g:List AV×AV:=([c71,(.int .i64 61)],g3d)
def t56:List (List AV×AV):=[w8y,w8z,w9a,w9b,w9c,w9d,w9e,w9f,w9g,w9h,v4r,v4s,v4t,v4u,v4v,v4w,v4x,v4y,v4z,v5a,v5b,v5c,v5d,v5e,v5f,v5g]
def v5h:List AV×AV:=([c85],(.int .i64 2))
def v5i:List AV×AV:=([c87],(.int .i64 2))
def v5j:List AV×AV:=([c91],(.int .i64 1))
def v5k:List AV×AV:=([c97],(.int .i64 1))
def v5l:List AV×AV:=([u2l],(.int .i64 1))
def v5m:List AV×AV:=([u1h],(.int .i64 1))
def v5n:List AV×AV:=([u2n],(.int .i64 1))
def v5o:List AV×AV:=([u2o],(.int .i64 1))
def v5p:List AV×AV:=([u9a],(.int .i64 1))
def v5q:List AV×AV:=([u2p],(.int .i64 1))
def k3a:List AV×AV:=([u2q],(.int .i64 1))
def u9f:List (List AV×AV):=[v5h,v5i,v5j,v5k,v5l,v5m,v5n,v5o,v5p,v5q,k3a]
def w9i:List AV×AV:=([u9c],g3q)
def t11:List (List AV×AV):=[w9i]
def w9j:List AV×AV:=([u9c,u9d],g3v)
def t15:List (List AV×AV):=[w9j]
def v5r:List AV×AV:=([c88,c89],c92)
def v5s:List AV×AV:=([c94,c95],c98)
def v5t:List AV×AV:=([c99,g2e],g2f)
def v5u:List AV×AV:=([g2q,c95],g2r)
def v5v:List AV×AV:=([c99,g2s],g2t)
def v5w:List AV×AV:=([g3e,g3f],g3g)
def v5x:List AV×AV:=([c99,g3h],g3i)
def u9g:List (List AV×AV):=[v5r,v5s,v5t,v5u,v5v,v5w,v5x]
def v5y:List AV×AV:=([c71,(.int .i64 16)],c81)
def v5z:List AV×AV:=([c71,(.int .i64 33)],c81)
def v6a:List AV×AV:=([c71,(.int .i64 50)],c81)
def u9h:List (List AV×AV):=[v5y,v5z,v6a]
def w9k:List AV×AV:=([g2j],(.bool true))
def w9l:List AV×AV:=([g2w],(.bool true))
def w9m:List AV×AV:=([g3o],(.bool true))
def w9n:List AV×AV:=([u9e],(.bool true))
def t28:List (List AV×AV):=[w9k,w9l,w9m,w9n]
def v6b:List AV×AV:=([c71,(.int .i64 20),c80,w0v],g2h)
def v6c:List AV×AV:=([c71,(.int .i64 37),c80,w0v],g2u)
def v6d:List AV×AV:=([c71,(.int .i64 54),c80,w0v],g3j)
def u9i:List (List AV×AV):=[v6b,v6c,v6d]
end Tw
open Tw
def tw1:List (Nat×List (List AV×AV)):=(77,t54)::(78,t55)::(79,t56)::(144,u9f)::(20,t11)::(22,t15)::[]
def tw2:List (Nat×List (List AV×AV)):=(297,u9g)::(141,u9h)::(35,t28)::tw1
def tw3:List (Nat×List (List AV×AV)):=(143,u9i)::tw2
end
end Go.Proofs.YtkollgjffkdliaaGreatDoor.Am
