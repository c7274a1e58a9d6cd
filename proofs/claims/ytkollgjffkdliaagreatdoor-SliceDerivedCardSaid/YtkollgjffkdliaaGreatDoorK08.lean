/- Functions that are told: slices Programs whose functions are told by tables What the functions answer that awake calls -/
import Derived.Lib.Bytealg
import Derived.Laws.Externs
import Derived.Test.YtkollgjffkdliaaGreatDoorK07
open Bool renaming false_eq_true → j9,not_true → z8
open List renaming mem_cons → j6
open Nat renaming le_refl → x7
set_option linter.all false
namespace Go.Proofs.YtkollgjffkdliaaGreatDoor
open Go Go.RowKit
namespace Am
set_option maxRecDepth 100000
noncomputable def j7e:AProg where
 fn f:=cFun Tryz.prog x3x {byref:=[0]} (real f)
 ext _:=none
 iters:=[]
theorem y4y:ProgOk Tryz.prog x3x j7e:=⟨fun f af h=>⟨_,h⟩,fun f sem h=>by cases h⟩
theorem k0q:q1b Tryz.prog x3x:=by
 intro f k hk G I w x cx hr hx himm
 unfold x3x at hk
 split at hk
 ·rename_i hf
  injection hk with hk
  subst hf;subst hk
  exact j9r hr hx himm
 ·cases hk
theorem y4z:q0m Tryz.prog j7e:=fun k hk=>by simp[j7e] at hk
def z8o (z:AV) (esz b:Nat):AFun:=
 {ntmps:=8,nslots:=2,results:=[.tmp 2],byref:=[0],owned:=false,
  body:=(.seq (.region 1 [⟨(some 2), .move (.const (.sl [] .nil)),none⟩] []) (.seq (.seq (.region 2 [⟨(some 3), .move (.tmp 0),none⟩,⟨(some 4), .binOp .eql .sl (.tmp 3) (.const (.sl [] .nil)),none⟩] []) (.cond (.tmp 4) (.seq (.region 1 [⟨(some 2), .move (.const (.sl [] .nil)),none⟩] []) .ret) .skip)) (.seq (.region 4 [⟨(some 5), .buildSlice 0 false z 0 [],none⟩,⟨(some 6), .move (.tmp 0),none⟩,⟨(some 7), .append 1 esz b false (.tmp 5) (.tmp 6),none⟩,⟨(some 2), .move (.tmp 7),none⟩] []) .ret)))}
theorem y5a:j7e.fn 90=some (z8o (.int .i64 0) 1 8):=by kernel_rfl
theorem y5b:j7e.fn 91=some (z8o (.agg [(.str []),(.int .i64 0)]) 2 24):=by kernel_rfl
theorem y5c:j7e.fn 92=some (z8o (.agg [(.int .i64 0),(.int .i64 0),(.str []),(.str []),(.int .i64 0)]) 5 56):=by kernel_rfl
theorem y5d {base g k clk:Nat} {ts:Tmps} {h:List AObj} {z:AV} {dst:Nat} {os:List AOper} {ks:List Kf} {Q:Post} (hz:z.def? =true):O j7e base .plain g (⟨some dst, .buildSlice k false z 0 [],none⟩::os) ⟨ts,h,clk⟩ ks Q=O j7e base .plain (g + 1) os ⟨upd ts dst (.sl [] .full),h,clk⟩ ks Q:=by
 rw[q3u rfl]
 have:prim h base g ts (.buildSlice k false z 0 [])=some (.sl [] .full,h):=by
  simp only[prim,hz,z8,j9,if_false,List.map_nil,z8f,z4u,freezeAll]
  rfl
 rw[this]
 rfl
theorem k6e {f esz b:Nat} {z:AV} {xs:List AV} (hf:j7e.fn f=some (z8o z esz b)) (hz:z.def? =true) (h1:z0r esz xs=true) (h3:z0i xs=[]) (h2:xs.length * (b + 1)≤2 ^ 46):∃ k,z5w j7e k f [.sl xs .nn] [] 0=some (.sl xs .no,[],0):=by
 have hext:j7e.ext f=none:=rfl
 have heq:∀ h,z8b h .eql .sl (.sl xs .nn) (.sl [] .nil)=some (.bool false,h):=fun h=>by cases xs <;> rfl
 have hgt:¬ (([]:List AV).length + xs.length) * (b + 1) > z1e:=by unfold z1e;simp;omega
 have happ:∀ h s g,z1a h s g esz b false (.sl [] .full) (.sl xs .nn)=some (.sl xs (.at s g),h.set s (.tip g esz)):=fun h s g=>by
  have ha:z0r esz []=true:=rfl
  unfold z1a
  simp only[z6k,h1,ha,z8,j9,if_false,decide_eq_true_eq,hgt,Bool.or_false,List.nil_append]
 have hp:z1q [] [0] 0 [.sl xs .nn]=some [.sl xs .nn]:=by simp[z1q]
 have hl:z0p [0] 0 [.sl xs .nn]=[]:=by simp[z0p]
 have hids:z0i [.sl xs .nn]=[]:=by simp[z0i,AV.ids,h3]
 have hK:K j7e 0 (z8o z esz b).body [] ⟨q0f [.sl xs .nn],[.dead, .dead],0⟩ (fun e s=>e= .ret∧∃ g,s.ts 2= .sl xs (.at 1 g)):=by
  simp only[go_sem,z8o,heq,y5d hz,happ,Nat.zero_add]
  exact⟨trivial,_,rfl⟩
 obtain⟨k,e,s,he,rfl,g,hs2⟩:=hK
 refine⟨k, ?_⟩
 unfold z5w z0k
 have hrep:maskFrom [] 0 ([]:List AObj)++List.replicate (z8o z esz b).nslots .dead=[.dead, .dead]:=rfl
 simp only[hext,hf,show (z8o z esz b).byref=[0] from rfl,hp,hl,hids,reach,freezeAll,List.length_nil,hrep,he,show (z8o z esz b).results=[.tmp 2] from rfl,z1s,Option.map_some,hs2,z1k,show (z8o z esz b).owned=false from rfl,j9,if_false,conv]
 have hobs:(AV.sl xs (.at 1 g)).obs=[]:=rfl
 simp[hobs,freezeAll,AV.ids,h3]
 cases s.h <;> rfl
theorem q6a {f esz b:Nat} {z:AV} {fn:Func} {c:Code} (hfn:j7e.fn f=some (z8o z esz b)) (hz:z.def? =true)
  (hnil:∀ n c w,Calls Tryz.prog f #[.slice none n c] w fun e w'=>e= .returned (.slice none 0 0)∧w'=w) (hf:Tryz.prog.funcs[f]? =some fn) (hb:fn.body=some c) (hn:fn.name≠ "runtime.NumGoroutine") (hr:real f=f):told Tryz.prog f (z7q esz b):=by
 intro az v hv G I w cargs hargs himm _
 rw[hr]
 obtain⟨xs,t,rfl⟩:∃ xs t,az=[.sl xs t]:=by
  unfold z7q at hv
  split at hv
  ·exact⟨_,_,rfl⟩
  ·cases hv
 simp only[z7q] at hv
 split at hv
 ·rename_i hc
  injection hv with hv
  subst hv
  obtain⟨h1,h3,h2⟩:=hc
  rw[List.isEmpty_iff] at h3
  simp only[VRL] at hargs
  obtain⟨cv,ws,hcv,hx,rfl⟩:=hargs
  obtain rfl:cargs= #[cv]:=by
   cases cargs
   simp_all
  simp only[VR] at hx
  obtain⟨A,n,cc,rfl,hlen,hnc,_,hrow⟩:=hx
  cases A with
  | none=>
    intro o a next Q hnx
    rw[z5r hf hb hn,Oper.upon_enter]
    refine (hnil n cc w).mono ?_
    rintro e w' ⟨rfl,rfl⟩
    refine hnx _ _ ⟨I,ILe.refl _, ?_,fun _ _ h=>h,rfl,rfl,rfl,x7 _,fun _ _ _ h=> .inl h⟩
    have hn0:n=0:=by
     rcases hrow with h | ⟨_,_,_,h,_⟩
     ·exact h
     ·cases h
    have:xs=[]:=List.length_eq_zero_iff.1 (by omega)
    subst this
    simp only[VR]
    exact⟨none,0,0,rfl,rfl,x7 _,trivial, .inl rfl⟩
  | some A=>
    have hargs0:VRL (fun _=>none) I [.sl xs .nn] [Value.slice (some A) n cc]:=by
     refine VRL.keep (n:=0) (G:=G) q2p (by simp[z0i,AV.ids,h3]) ?_
     simp only[VRL,VR]
     exact⟨_,_,rfl,⟨_,_,_,rfl,hlen,hnc,by simp[TipR],hrow⟩,rfl⟩
    obtain⟨k,hk⟩:=k6e hfn hz h1 h3 h2
    intro o a next Q hnx
    have hsc:=q5w y4y k0q (j0h (by kernel_rfl)) y4z k f [.sl xs .nn] [] 0 _ _ _ hk (fun _=>none) I w #[Value.slice (some A) n cc] hargs0 ⟨himm,fun i o ho=>by simp at ho,fun i j oi oj b hi=>by simp at hi⟩ (fun _ _=>rfl)
    rw[hr] at hsc
    refine hsc o a next Q fun cv w' he=>hnx cv w' ?_
    obtain⟨G',I',hv',hran,_⟩:=he
    refine⟨I',hran.ile,VR.keep (n:=0) q2p (by simp[AV.ids,h3]) hv',fun b y hy=> ?_,hran.fr.os,hran.fr.tape,hran.fr.output,hran.fr.size,fun b o v hv=> ?_⟩
    ·have hb:b < w.heap.size:=(Array.getElem?_eq_some_iff.1 hy).1
     rw[hran.fr.kept b hb fun i o hi=>by simp at hi]
     exact hy
    ·rcases Nat.lt_or_ge b w.heap.size with hb | hb
     ·exact .inl (hran.ifr b hb (fun i o hi=>by simp at hi) o v hv)
     ·exact .inr ⟨hb,hran.rel.imm b o v hv⟩
 ·cases hv
theorem k6f (n c:Nat) (w:World):(binOp BinOp.eql 22 (Value.slice none n c) (Value.slice none 0 0)).run Tryz.prog w= .ok (.bool true) w:=by
 rfl
theorem k6g (n c:Nat) (w:World):(binOp BinOp.eql 59 (Value.slice none n c) (Value.slice none 0 0)).run Tryz.prog w= .ok (.bool true) w:=by
 rfl
theorem k6h (n c:Nat) (w:World):(binOp BinOp.eql 61 (Value.slice none n c) (Value.slice none 0 0)).run Tryz.prog w= .ok (.bool true) w:=by
 rfl
theorem y5e (n c:Nat) (w:World):Calls Tryz.prog 90 #[.slice none n c] w fun e w'=>e= .returned (.slice none 0 0)∧w'=w:=by
 go_enter Tryz.func90,Tryz.ntmps90
 go_wp2
 rw[k6f]
 go_wp2
 go_ret
 exact⟨rfl,rfl⟩
theorem y5f (n c:Nat) (w:World):Calls Tryz.prog 91 #[.slice none n c] w fun e w'=>e= .returned (.slice none 0 0)∧w'=w:=by
 go_enter Tryz.func91,Tryz.ntmps91
 go_wp2
 rw[k6g]
 go_wp2
 go_ret
 exact⟨rfl,rfl⟩
theorem y5g (n c:Nat) (w:World):Calls Tryz.prog 92 #[.slice none n c] w fun e w'=>e= .returned (.slice none 0 0)∧w'=w:=by
 go_enter Tryz.func92,Tryz.ntmps92
 go_wp2
 rw[k6h]
 go_wp2
 go_ret
 exact⟨rfl,rfl⟩
theorem w3w:told Tryz.prog 90 (z7q 1 8):=q6a y5a rfl y5e Tryz.func90 rfl (by decide) rfl
theorem w3x:told Tryz.prog 91 (z7q 2 24):=q6a y5b rfl y5f Tryz.func91 rfl (by decide) rfl
theorem w3y:told Tryz.prog 92 (z7q 5 56):=q6a y5c rfl y5g Tryz.func92 rfl (by decide) rfl
theorem y5h {a c:Nat} (ha:a < 256) (hc:c < 256):(UInt8.ofNat a==c.toUInt8)=decide ((a:Int)=(c:Int)):=by
 rw[Bool.eq_iff_iff,r8,beq_iff_eq]
 constructor
 ·intro h
  have:=congrArg UInt8.toNat h
  simp at this
  omega
 ·intro h
  have:a=c:=by omega
  subst this
  rfl
theorem j3f {c:Nat} (hc:c < 256):∀ {s:List Nat},(∀ b∈s,b < 256)→Lib.indexByte (s.map UInt8.ofNat) c.toUInt8=(match s.findIdx? (fun (b:Nat)=>decide ((b:Int)=(c:Int))) with | some i=>(i:Int) | none=> -1)
 | [],_=>rfl
 | a::s,h=>by
   have ih:=j3f hc (s:=s) fun b hb=>h b (List.mem_cons_of_mem _ hb)
   have ha:=y5h (h a List.mem_cons_self) hc
   rw[List.map_cons,Lib.indexByte,ha,ih,List.findIdx?_cons]
   by_cases hd:(a:Int)=(c:Int)
   ·simp[hd]
   ·cases hs:s.findIdx? (fun (b:Nat)=>decide ((b:Int)=(c:Int))) with
    | none=>simp[hd,hs]
    | some i=>
      have:((i:Int)== -1)=false:=by simp
      simp[hd,this]
theorem v6i:told Tryz.prog 354 x1x:=by
 intro az v hv G I w cargs hargs himm _
 rw[show real 354=354 from rfl]
 obtain⟨s,c,rfl⟩:∃ s c,az=[.str s, .int .u8 c]:=by
  unfold x1x at hv
  split at hv
  ·exact⟨_,_,rfl⟩
  ·cases hv
 simp only[x1x] at hv
 split at hv
 ·rename_i hc
  injection hv with hv
  subst hv
  simp only[VRL,VR] at hargs
  obtain⟨v1,w1,h1,⟨rfl,hb⟩,v2,w2,rfl,rfl,rfl⟩:=hargs
  obtain rfl:cargs= #[.string (z7r s), .int .u8 c]:=by
   cases cargs
   simp_all
  intro o a next Q hnx
  rw[run_callFunc_extern (fn:=Tryz.f354) Tryz.func354 (by kernel_rfl) (by kernel_rfl) (by kernel_rfl) (e:=Extern.BytealgIndexByte.indexByte) (by kernel_rfl),Lib.run_indexByteString]
  simp only[Result.andThen]
  rw[Oper.upon_value]
  refine hnx _ _ ⟨I,ILe.refl _, ?_,fun _ _ h=>h,rfl,rfl,rfl,x7 _,fun _ _ _ h=> .inl h⟩
  simp only[VR]
  obtain⟨n,rfl⟩:∃ n:Nat,c=(n:Int):=⟨c.toNat,by omega⟩
  have hn:n < 256:=by omega
  have:=j3f hn hb
  simp only[Int.toNat_natCast,z7r]
  rw[this]
  rfl
 ·cases hv
end Am
end Go.Proofs.YtkollgjffkdliaaGreatDoor
namespace Go.Proofs.YtkollgjffkdliaaGreatDoor.Am
open Go
set_option maxRecDepth 100000
noncomputable def z2j (T:List (Nat×List (List AV×AV))):AProg where
 fn f:=cFun Tryz.prog x3x (w2i f) (real f)
 ext f:=match y4o f with
  | some sem=>some sem
  | none=>(T.find? fun p=>p.1==f).map fun p=>q5u p.2
 iters:=[294]
theorem u1j:Gam=z2j w2h:=rfl
theorem w3z {T:List (Nat×List (List AV×AV))}:q0m Tryz.prog (z2j T):=by
 intro k hk
 obtain rfl:k=294:=by simpa [z2j] using hk
 exact⟨j9q,fun args w=>z5r Tryz.func294 rfl (by decide)⟩
def Told (T:List (Nat×List (List AV×AV))):Prop:=∀ p∈T,told Tryz.prog p.1 (q5u p.2)
theorem w4a {T:List (Nat×List (List AV×AV))} (h:Told T):ProgOk Tryz.prog x3x (z2j T):=by
 refine⟨fun f af h=>⟨_,h⟩,fun f sem hs=> ?_⟩
 have main:told Tryz.prog f sem:=by
  simp only[z2j,y4o] at hs
  split at hs
  ·rename_i he
   injection hs with hs
   subst hs
   split at he
   ·rename_i h1;injection he with he;subst h1;subst he;exact w3w
   split at he
   ·rename_i h1;injection he with he;subst h1;subst he;exact w3x
   split at he
   ·rename_i h1;injection he with he;subst h1;subst he;exact w3y
   split at he
   ·rename_i h1;injection he with he;subst h1;subst he;exact v6i
   ·cases he
  ·rw[Option.map_eq_some_iff] at hs
   obtain⟨p,hp,rfl⟩:=hs
   have h1:p.1=f:=by simpa using List.find?_some hp
   subst h1
   exact h p (List.mem_of_find?_eq_some hp)
 exact main
def Borne (T:List (Nat×List (List AV×AV))) (f:Nat) (t:List (List AV×AV)):Prop:=∀ q∈t,∃ k,chk (z2j T) k f q=true
theorem Borne.nil {T:List (Nat×List (List AV×AV))} {f:Nat}:Borne T f []:=fun q hq=>by cases hq
theorem Borne.cons {T:List (Nat×List (List AV×AV))} {f k:Nat} {q:List AV×AV} {t:List (List AV×AV)} (h:chk (z2j T) k f q=true) (ht:Borne T f t):Borne T f (q::t):=fun p hp=>by
 rcases j6.1 hp with rfl | hp
 ·exact⟨k,h⟩
 ·exact ht p hp
theorem Borne.told {T:List (Nat×List (List AV×AV))} {f:Nat} {t:List (List AV×AV)} (hT:Told T) (h:Borne T f t):told Tryz.prog f (q5u t):=k5k (w4a hT) k0q (j0h (by kernel_rfl)) w3z h
theorem z3r:Told []:=fun p hp=>by cases hp
theorem Told.snoc {T:List (Nat×List (List AV×AV))} {f:Nat} {t:List (List AV×AV)} (hT:Told T) (h:Am.told Tryz.prog f (q5u t)):Told ((f,t)::T):=fun p hp=>by
 rcases j6.1 hp with rfl | hp
 ·exact h
 ·exact hT p hp
section
namespace Tw
def c0:AV:=(.str [40,100,101,99,108,97,114,101,45,102,117,110,32,80,32,40,73,110,116,41,32,66,111,111,108,41,40,100,101,99,108,97,114,101,45,102,117,110,32,81,32,40,73,110,116,41,32,66,111,111,108,41,40,97,115,115,101,114,116,32,40,80,32,48,41,41,32,40,97,115,115,101,114,116,32,40,102,111,114,97,108,108,32,40,40,120,32,73,110,116,41,41,32,40,61,62,32,40,80,32,120,41,32,40,81,32,120,41,41,41,41,32,40,97,115,115,101,114,116,32,40,102,111,114,97,108,108,32,40,40,120,32,73,110,116,41,41,32,40,61,62,32,40,97,110,100,32,40,80,32,120,41,32,40,60,32,120,32,48,41,41,32,102,97,108,115,101,41,41,41])
def c1:AV:= .agg [(.int .i64 5),(.str []),(.int .i64 4),(.int .i64 0)]
def c2:AV:=(.str [100,101,99,108,97,114,101,45,102,117,110])
def c3:AV:= .agg [(.int .i64 1),c2,(.int .i64 0),(.int .i64 1)]
def c4:AV:= .agg [(.int .i64 1),(.str [80]),(.int .i64 0),(.int .i64 13)]
def c5:AV:= .agg [(.int .i64 5),(.str []),(.int .i64 1),(.int .i64 15)]
def c6:AV:= .agg [(.int .i64 1),(.str [73,110,116]),(.int .i64 0),(.int .i64 16)]
def c7:AV:=(.str [66,111,111,108])
def c8:AV:= .agg [(.int .i64 1),c7,(.int .i64 0),(.int .i64 21)]
def c9:AV:= .agg [(.int .i64 5),(.str []),(.int .i64 4),(.int .i64 26)]
def c10:AV:= .agg [(.int .i64 1),c2,(.int .i64 0),(.int .i64 27)]
def c11:AV:= .agg [(.int .i64 1),(.str [81]),(.int .i64 0),(.int .i64 39)]
def c12:AV:= .agg [(.int .i64 5),(.str []),(.int .i64 1),(.int .i64 41)]
def c13:AV:= .agg [(.int .i64 1),(.str [73,110,116]),(.int .i64 0),(.int .i64 42)]
def c14:AV:= .agg [(.int .i64 1),c7,(.int .i64 0),(.int .i64 47)]
def c15:AV:= .agg [(.int .i64 5),(.str []),(.int .i64 2),(.int .i64 52)]
def c16:AV:=(.str [97,115,115,101,114,116])
def c17:AV:= .agg [(.int .i64 1),c16,(.int .i64 0),(.int .i64 53)]
def c18:AV:= .agg [(.int .i64 5),(.str []),(.int .i64 2),(.int .i64 60)]
def c19:AV:= .agg [(.int .i64 1),(.str [80]),(.int .i64 0),(.int .i64 61)]
def c20:AV:= .agg [(.int .i64 2),(.str [48]),(.int .i64 0),(.int .i64 63)]
def c21:AV:= .agg [(.int .i64 5),(.str []),(.int .i64 2),(.int .i64 67)]
def c22:AV:= .agg [(.int .i64 1),c16,(.int .i64 0),(.int .i64 68)]
def c23:AV:= .agg [(.int .i64 5),(.str []),(.int .i64 3),(.int .i64 75)]
def c24:AV:=(.str [102,111,114,97,108,108])
def c25:AV:= .agg [(.int .i64 1),c24,(.int .i64 0),(.int .i64 76)]
def c26:AV:= .agg [(.int .i64 5),(.str []),(.int .i64 1),(.int .i64 83)]
def c27:AV:= .agg [(.int .i64 5),(.str []),(.int .i64 2),(.int .i64 84)]
def c28:AV:= .agg [(.int .i64 1),(.str [120]),(.int .i64 0),(.int .i64 85)]
def c29:AV:= .agg [(.int .i64 1),(.str [73,110,116]),(.int .i64 0),(.int .i64 87)]
def c30:AV:= .agg [(.int .i64 5),(.str []),(.int .i64 3),(.int .i64 93)]
def c31:AV:= .agg [(.int .i64 1),(.str [61,62]),(.int .i64 0),(.int .i64 94)]
def c32:AV:= .agg [(.int .i64 5),(.str []),(.int .i64 2),(.int .i64 97)]
def c33:AV:= .agg [(.int .i64 1),(.str [80]),(.int .i64 0),(.int .i64 98)]
def c34:AV:= .agg [(.int .i64 1),(.str [120]),(.int .i64 0),(.int .i64 100)]
def c35:AV:= .agg [(.int .i64 5),(.str []),(.int .i64 2),(.int .i64 103)]
def c36:AV:= .agg [(.int .i64 1),(.str [81]),(.int .i64 0),(.int .i64 104)]
def c37:AV:= .agg [(.int .i64 1),(.str [120]),(.int .i64 0),(.int .i64 106)]
def c38:AV:= .agg [(.int .i64 5),(.str []),(.int .i64 2),(.int .i64 112)]
def c39:AV:= .agg [(.int .i64 1),c16,(.int .i64 0),(.int .i64 113)]
def c40:AV:= .agg [(.int .i64 5),(.str []),(.int .i64 3),(.int .i64 120)]
def c41:AV:= .agg [(.int .i64 1),c24,(.int .i64 0),(.int .i64 121)]
def c42:AV:= .agg [(.int .i64 5),(.str []),(.int .i64 1),(.int .i64 128)]
def c43:AV:= .agg [(.int .i64 5),(.str []),(.int .i64 2),(.int .i64 129)]
def c44:AV:= .agg [(.int .i64 1),(.str [120]),(.int .i64 0),(.int .i64 130)]
def c45:AV:= .agg [(.int .i64 1),(.str [73,110,116]),(.int .i64 0),(.int .i64 132)]
def c46:AV:= .agg [(.int .i64 5),(.str []),(.int .i64 3),(.int .i64 138)]
def c47:AV:= .agg [(.int .i64 1),(.str [61,62]),(.int .i64 0),(.int .i64 139)]
def c48:AV:= .agg [(.int .i64 5),(.str []),(.int .i64 3),(.int .i64 142)]
def c49:AV:= .agg [(.int .i64 1),(.str [97,110,100]),(.int .i64 0),(.int .i64 143)]
def c50:AV:= .agg [(.int .i64 5),(.str []),(.int .i64 2),(.int .i64 147)]
def c51:AV:= .agg [(.int .i64 1),(.str [80]),(.int .i64 0),(.int .i64 148)]
def c52:AV:= .agg [(.int .i64 1),(.str [120]),(.int .i64 0),(.int .i64 150)]
def c53:AV:= .agg [(.int .i64 5),(.str []),(.int .i64 3),(.int .i64 153)]
def c54:AV:= .agg [(.int .i64 1),(.str [60]),(.int .i64 0),(.int .i64 154)]
def c55:AV:= .agg [(.int .i64 1),(.str [120]),(.int .i64 0),(.int .i64 156)]
def c56:AV:= .agg [(.int .i64 2),(.str [48]),(.int .i64 0),(.int .i64 158)]
def c57:AV:=(.str [102,97,108,115,101])
def c58:AV:= .agg [(.int .i64 1),c57,(.int .i64 0),(.int .i64 162)]
def c59:AV:= .sl [c1,c3,c4,c5,c6,c8,c9,c10,c11,c12,c13,c14,c15,c17,c18,c19,c20,c21,c22,c23,c25,c26,c27,c28,c29,c30,c31,c32,c33,c34,c35,c36,c37,c38,c39,c40,c41,c42,c43,c44,c45,c46,c47,c48,c49,c50,c51,c52,c53,c54,c55,c56,c58] .no
def c60:AV:= .tup [c59,(.int .i64 0),(.int .i64 0)]
def c61:AV:= .sl [(.int .i64 0),(.int .i64 6),(.int .i64 12),(.int .i64 17),(.int .i64 33)] .no
def c62:AV:= .sl [(.int .i64 1),(.int .i64 2),(.int .i64 3),(.int .i64 5)] .no
def c63:AV:= .sl [(.int .i64 7),(.int .i64 8),(.int .i64 9),(.int .i64 11)] .no
def c64:AV:= .sl [(.int .i64 13),(.int .i64 14)] .no
def c65:AV:= .sl [(.int .i64 15),(.int .i64 16)] .no
def c66:AV:= .agg [(.int .i64 3),(.int .i64 2),(.str []),(.str [48]),(.int .i64 0)]
def c67:AV:= .sl [c66] .no
def c68:AV:= .agg [(.int .i64 5),(.int .i64 1),(.str [80]),(.str []),(.int .i64 0)]
def c69:AV:= .sl [c67] .no
def c70:AV:= .agg [(.int .i64 5),(.int .i64 1),(.str [80]),(.str []),(.int .i64 1)]
def c71:AV:= .sl [c70,c66] .no
def c72:AV:= .tup [c71,(.int .i64 0)]
def c73:AV:= .agg [(.str [80]),(.sl [(.int .i64 2)] .no),(.int .i64 1)]
def c74:AV:= .agg [(.str [81]),(.sl [(.int .i64 2)] .no),(.int .i64 1)]
def c75:AV:= .sl [c73,c74] .no
def c76:AV:= .tup [c71,(.int .i64 0),(.int .i64 0)]
def c77:AV:= .agg [(.int .i64 1),(.int .i64 0),(.str []),(.str []),(.int .i64 0)]
def c78:AV:= .sl [c77] .no
def c79:AV:= .agg [(.sl [] .no),(.sl [] .no),c78,(.str [80]),c69]
def c80:AV:= .sl [c79] .no
def c81:AV:= .agg [c75,c80]
def c82:AV:= .sl [(.int .i64 18),(.int .i64 19)] .no
def c83:AV:= .sl [(.int .i64 20),(.int .i64 21),(.int .i64 25)] .no
def c84:AV:= .sl [(.int .i64 23),(.int .i64 24)] .no
def c85:AV:= .agg [(.str [120]),(.int .i64 2)]
def c86:AV:= .sl [c85] .no
def c87:AV:= .tup [c86,(.int .i64 0)]
def c88:AV:= .sl [(.int .i64 26),(.int .i64 27),(.int .i64 30)] .no
def c89:AV:= .sl [(.int .i64 28),(.int .i64 29)] .no
def c90:AV:= .agg [(.int .i64 4),(.int .i64 2),(.str [120]),(.str []),(.int .i64 0)]
def c91:AV:= .sl [c90] .no
def c92:AV:= .sl [c91] .no
def c93:AV:= .sl [c70,c90] .no
def c94:AV:= .tup [c93,(.int .i64 0)]
def c95:AV:= .sl [(.int .i64 31),(.int .i64 32)] .no
def c96:AV:= .agg [(.int .i64 5),(.int .i64 1),(.str [81]),(.str []),(.int .i64 0)]
def c97:AV:= .agg [(.int .i64 5),(.int .i64 1),(.str [81]),(.str []),(.int .i64 1)]
def c98:AV:= .sl [c97,c90] .no
def c99:AV:= .tup [c98,(.int .i64 0)]
def u1k:AV:= .agg [(.int .i64 9),(.int .i64 0),(.str []),(.str []),(.int .i64 0)]
def u4g:AV:= .sl [c93,c98] .no
def u1l:AV:= .agg [(.int .i64 9),(.int .i64 0),(.str []),(.str []),(.int .i64 2)]
def y5i:AV:= .sl [u1l,c70,c90,c97,c90] .no
def u4h:AV:= .tup [y5i,(.int .i64 0)]
def u4i:AV:= .tup [y5i,(.int .i64 0),(.int .i64 0)]
def u4j:AV:= .agg [(.str [80]),c92]
def u1m:AV:= .sl [u4j] .no
def u1n:AV:= .agg [c86,u1m,c78,(.str [81]),c92]
def u4k:AV:= .sl [u1n] .no
def u4l:AV:= .agg [c75,u4k]
def u4m:AV:= .sl [(.int .i64 34),(.int .i64 35)] .no
def u4n:AV:= .sl [(.int .i64 36),(.int .i64 37),(.int .i64 41)] .no
def u4o:AV:= .sl [(.int .i64 39),(.int .i64 40)] .no
def u4p:AV:= .sl [(.int .i64 42),(.int .i64 43),(.int .i64 52)] .no
def u4q:AV:= .sl [(.int .i64 44),(.int .i64 45),(.int .i64 48)] .no
def u4r:AV:= .sl [(.int .i64 46),(.int .i64 47)] .no
def u4s:AV:= .sl [(.int .i64 49),(.int .i64 50),(.int .i64 51)] .no
def u4t:AV:= .agg [(.int .i64 13),(.int .i64 0),(.str []),(.str []),(.int .i64 0)]
def u4u:AV:= .sl [c91,c67] .no
def y5j:AV:= .agg [(.int .i64 13),(.int .i64 0),(.str []),(.str []),(.int .i64 2)]
def y4i:AV:= .sl [y5j,c90,c66] .no
def u4v:AV:= .tup [y4i,(.int .i64 0)]
def u4w:AV:= .agg [(.int .i64 7),(.int .i64 0),(.str []),(.str []),(.int .i64 0)]
def u4x:AV:= .sl [c93,y4i] .no
def u1o:AV:= .agg [(.int .i64 7),(.int .i64 0),(.str []),(.str []),(.int .i64 2)]
def y5k:AV:= .sl [u1o,c70,c90,y5j,c90,c66] .no
def u4y:AV:= .tup [y5k,(.int .i64 0)]
def u1p:AV:= .agg [(.int .i64 2),(.int .i64 0),(.str []),(.str []),(.int .i64 0)]
def u1q:AV:= .sl [u1p] .no
def u4z:AV:= .sl [y5k,u1q] .no
def y5l:AV:= .sl [u1l,u1o,c70,c90,y5j,c90,c66,u1p] .no
def u5a:AV:= .tup [y5l,(.int .i64 0)]
def u5b:AV:= .tup [y5l,(.int .i64 0),(.int .i64 0)]
def y5m:AV:= .agg [c86,u1m,y4i,(.str []),(.sl [] .no)]
def u5c:AV:= .sl [y5m] .no
def u5d:AV:= .agg [c75,u5c]
def u5e:AV:= .sl [c79,u1n,y5m] .no
def u1r:AV:= .agg [c75,u5e]
def u1s:AV:= .agg [(.int .i64 2),(.str []),(.str []),(.int .i64 0),(.int .i64 0),(.sl [(.str [81])] .no),(.sl [] .no),(.sl [] .no)]
def u5f:AV:= .tup [u1s,(.int .i64 0)]
def u5g:AV:= .sl [c73] .no
def u5h:AV:= .sl [c79,y5m] .no
def u1t:AV:= .agg [u5g,u5h]
def u5i:AV:= .tup [u1t,(.int .i64 0)]
def w4b:List AV×AV:=([c0],c60)
def t54:List (List AV×AV):=[w4b]
def w4c:List AV×AV:=([c59],c61)
def t55:List (List AV×AV):=[w4c]
def w4d:List AV×AV:=([c59,(.int .i64 0)],c62)
def w4e:List AV×AV:=([c59,(.int .i64 3)],(.sl [(.int .i64 4)] .no))
def w4f:List AV×AV:=([c59,(.int .i64 6)],c63)
def w4g:List AV×AV:=([c59,(.int .i64 9)],(.sl [(.int .i64 10)] .no))
def w4h:List AV×AV:=([c59,(.int .i64 12)],c64)
def w4i:List AV×AV:=([c59,(.int .i64 14)],c65)
def w4j:List AV×AV:=([c59,(.int .i64 17)],c82)
def w4k:List AV×AV:=([c59,(.int .i64 19)],c83)
def w4l:List AV×AV:=([c59,(.int .i64 21)],(.sl [(.int .i64 22)] .no))
def w4m:List AV×AV:=([c59,(.int .i64 22)],c84)
def v1j:List AV×AV:=([c59,(.int .i64 25)],c88)
def v1k:List AV×AV:=([c59,(.int .i64 27)],c89)
def v1l:List AV×AV:=([c59,(.int .i64 30)],c95)
def v1m:List AV×AV:=([c59,(.int .i64 33)],u4m)
def v1n:List AV×AV:=([c59,(.int .i64 35)],u4n)
def v1o:List AV×AV:=([c59,(.int .i64 37)],(.sl [(.int .i64 38)] .no))
def v1p:List AV×AV:=([c59,(.int .i64 38)],u4o)
def v1q:List AV×AV:=([c59,(.int .i64 41)],u4p)
def v1r:List AV×AV:=([c59,(.int .i64 43)],u4q)
def v1s:List AV×AV:=([c59,(.int .i64 45)],u4r)
def v1t:List AV×AV:=([c59,(.int .i64 48)],u4s)
def t56:List (List AV×AV):=[w4d,w4e,w4f,w4g,w4h,w4i,w4j,w4k,w4l,w4m,v1j,v1k,v1l,v1m,v1n,v1o,v1p,v1q,v1r,v1s,v1t]
def v1u:List AV×AV:=([c67],(.int .i64 2))
def v1v:List AV×AV:=([c71],(.int .i64 1))
def v1w:List AV×AV:=([c78],(.int .i64 1))
def v1x:List AV×AV:=([c91],(.int .i64 2))
def v1y:List AV×AV:=([c93],(.int .i64 1))
def v1z:List AV×AV:=([c98],(.int .i64 1))
def v2a:List AV×AV:=([y5i],(.int .i64 1))
def v2b:List AV×AV:=([y4i],(.int .i64 1))
def v2c:List AV×AV:=([y5k],(.int .i64 1))
def v2d:List AV×AV:=([u1q],(.int .i64 1))
def k0r:List AV×AV:=([y5l],(.int .i64 1))
def u1u:List (List AV×AV):=[v1u,v1v,v1w,v1x,v1y,v1z,v2a,v2b,v2c,v2d,k0r]
def w4n:List AV×AV:=([u1r],u5f)
def t21:List (List AV×AV):=[w4n]
def w4o:List AV×AV:=([u1r,u1s],u5i)
def t24:List (List AV×AV):=[w4o]
def v2e:List AV×AV:=([c68,c69],c72)
def v2f:List AV×AV:=([c68,c92],c94)
def v2g:List AV×AV:=([c96,c92],c99)
def v2h:List AV×AV:=([u1k,u4g],u4h)
def v2i:List AV×AV:=([u4t,u4u],u4v)
def v2j:List AV×AV:=([u4w,u4x],u4y)
def v2k:List AV×AV:=([u1k,u4z],u5a)
def u1v:List (List AV×AV):=[v2e,v2f,v2g,v2h,v2i,v2j,v2k]
def v2l:List AV×AV:=([c59,(.int .i64 21)],c87)
def v2m:List AV×AV:=([c59,(.int .i64 37)],c87)
def u1w:List (List AV×AV):=[v2l,v2m]
def w4p:List AV×AV:=([c81],(.bool true))
def w4q:List AV×AV:=([u4l],(.bool true))
def w4r:List AV×AV:=([u5d],(.bool true))
def w4s:List AV×AV:=([u1t],(.bool true))
def t28:List (List AV×AV):=[w4p,w4q,w4r,w4s]
def v2n:List AV×AV:=([c59,(.int .i64 14),(.sl [] .no),c75],c76)
def v2o:List AV×AV:=([c59,(.int .i64 25),c86,c75],u4i)
def v2p:List AV×AV:=([c59,(.int .i64 41),c86,c75],u5b)
def u1x:List (List AV×AV):=[v2n,v2o,v2p]
end Tw
open Tw
def tw1:List (Nat×List (List AV×AV)):=(77,t54)::(78,t55)::(79,t56)::(144,u1u)::(7,t21)::(12,t24)::[]
def tw2:List (Nat×List (List AV×AV)):=(297,u1v)::(141,u1w)::(35,t28)::tw1
def tw3:List (Nat×List (List AV×AV)):=(143,u1x)::tw2
end
end Go.Proofs.YtkollgjffkdliaaGreatDoor.Am
