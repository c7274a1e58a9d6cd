/- Functions that are told: slices Programs whose functions are told by tables What the functions answer that awake calls -/
import Derived.Lib.Bytealg
import Derived.Laws.Externs
import Derived.Test.YtahdahokpjigiaaGreatDoorM09
set_option linter.all false
namespace Go.Proofs.YtahdahokpjigiaaGreatDoor
open Go Go.RowKit
namespace Am
set_option maxRecDepth 100000
noncomputable def j6c:AProg where
 fn f:=cFun Tryz.prog x3m {byref:=[0]} f
 ext _:=none
 iters:=[]
theorem y2l:ProgOk Tryz.prog x3m j6c:=⟨fun f af h=>⟨_,h⟩,fun f sem h=>by cases h⟩
theorem j9r:q1k Tryz.prog x3m:=by
 intro f k hk G I w x cx hr hx himm
 unfold x3m at hk
 split at hk
 ·rename_i hf
  injection hk with hk
  subst hf;subst hk
  exact j8s hr hx himm
 ·cases hk
theorem y2m:q1a Tryz.prog j6c:=fun k hk=>by simp[j6c] at hk
def z8u (z:AV) (esz b:Nat):AFun:=
 {ntmps:=8,nslots:=2,results:=[.tmp 2],byref:=[0],owned:=false,
  body:=(.seq (.region 1 [⟨(some 2), .move (.const (.sl [] .nil)),none⟩] []) (.seq (.seq (.region 2 [⟨(some 3), .move (.tmp 0),none⟩,⟨(some 4), .binOp .eql .sl (.tmp 3) (.const (.sl [] .nil)),none⟩] []) (.cond (.tmp 4) (.seq (.region 1 [⟨(some 2), .move (.const (.sl [] .nil)),none⟩] []) .ret) .skip)) (.seq (.region 4 [⟨(some 5), .buildSlice 0 false z 0 [],none⟩,⟨(some 6), .move (.tmp 0),none⟩,⟨(some 7), .append 1 esz b false (.tmp 5) (.tmp 6),none⟩,⟨(some 2), .move (.tmp 7),none⟩] []) .ret)))}
theorem y2n:j6c.fn 92=some (z8u (.int .i64 0) 1 8):=by kernel_rfl
theorem y2o:j6c.fn 93=some (z8u (.agg [(.str []),(.int .i64 0)]) 2 24):=by kernel_rfl
theorem y2p:j6c.fn 94=some (z8u (.agg [(.int .i64 0),(.int .i64 0),(.str []),(.str []),(.int .i64 0)]) 5 56):=by kernel_rfl
theorem y2q {base g k clk:Nat} {ts:Tmps} {h:List AObj} {z:AV} {dst:Nat} {os:List AOper} {ks:List Kf} {Q:Post} (hz:z.def? =true):O j6c base .plain g (⟨some dst, .buildSlice k false z 0 [],none⟩::os) ⟨ts,h,clk⟩ ks Q=O j6c base .plain (g + 1) os ⟨upd ts dst (.sl [] .full),h,clk⟩ ks Q:=by
 rw[q3c rfl]
 have:prim h base g ts (.buildSlice k false z 0 [])=some (.sl [] .full,h):=by
  simp only[prim,hz,Bool.not_true,Bool.false_eq_true,if_false,List.map_nil,z9t,z4k,freezeAll]
  rfl
 rw[this]
 rfl
theorem k5b {f esz b:Nat} {z:AV} {xs:List AV} (hf:j6c.fn f=some (z8u z esz b)) (hz:z.def? =true) (h1:z0t esz xs=true) (h3:idsL xs=[]) (h2:xs.length * (b + 1)≤2 ^ 46):∃ k,z5b j6c k f [.sl xs .nn] [] 0=some (.sl xs .no,[],0):=by
 have hext:j6c.ext f=none:=rfl
 have heq:∀ h,z7d h .eql .sl (.sl xs .nn) (.sl [] .nil)=some (.bool false,h):=fun h=>by cases xs <;> rfl
 have hgt:¬ (([]:List AV).length + xs.length) * (b + 1) > z1c:=by unfold z1c;simp;omega
 have happ:∀ h s g,z1g h s g esz b false (.sl [] .full) (.sl xs .nn)=some (.sl xs (.at s g),h.set s (.tip g esz)):=fun h s g=>by
  have ha:z0t esz []=true:=rfl
  unfold z1g
  simp only[z5a,h1,ha,Bool.not_true,Bool.false_eq_true,if_false,decide_eq_true_eq,hgt,Bool.or_false,List.nil_append]
 have hp:z1n [] [0] 0 [.sl xs .nn]=some [.sl xs .nn]:=by simp[z1n]
 have hl:z0s [0] 0 [.sl xs .nn]=[]:=by simp[z0s]
 have hids:idsL [.sl xs .nn]=[]:=by simp[idsL,AV.ids,h3]
 have hK:K j6c 0 (z8u z esz b).body [] ⟨q0b [.sl xs .nn],[.dead, .dead],0⟩ (fun e s=>e= .ret∧∃ g,s.ts 2= .sl xs (.at 1 g)):=by
  simp only[go_sem,z8u,heq,y2q hz,happ,Nat.zero_add]
  exact⟨trivial,_,rfl⟩
 obtain⟨k,e,s,he,rfl,g,hs2⟩:=hK
 refine⟨k, ?_⟩
 unfold z5b z0k
 have hrep:maskFrom [] 0 ([]:List AObj)++List.replicate (z8u z esz b).nslots .dead=[.dead, .dead]:=rfl
 simp only[hext,hf,show (z8u z esz b).byref=[0] from rfl,hp,hl,hids,reach,freezeAll,List.length_nil,hrep,he,show (z8u z esz b).results=[.tmp 2] from rfl,z1s,Option.map_some,hs2,z1k,show (z8u z esz b).owned=false from rfl,Bool.false_eq_true,if_false,conv]
 have hobs:(AV.sl xs (.at 1 g)).obs=[]:=rfl
 simp[hobs,freezeAll,AV.ids,h3]
 cases s.h <;> rfl
theorem q5y {f esz b:Nat} {z:AV} {fn:Func} {c:Code} (hfn:j6c.fn f=some (z8u z esz b)) (hz:z.def? =true)
  (hnil:∀ n c w,Calls Tryz.prog f #[.slice none n c] w fun e w'=>e= .returned (.slice none 0 0)∧w'=w) (hf:Tryz.prog.funcs[f]? =some fn) (hb:fn.body=some c) (hn:fn.name≠ "runtime.NumGoroutine"):told Tryz.prog f (z4y esz b):=by
 intro az v hv G I w cargs hargs himm _
 obtain⟨xs,t,rfl⟩:∃ xs t,az=[.sl xs t]:=by
  unfold z4y at hv
  split at hv
  ·exact⟨_,_,rfl⟩
  ·cases hv
 simp only[z4y] at hv
 split at hv
 ·rename_i hc
  injection hv with hv
  subst hv
  obtain⟨h1,h3,h2⟩:=hc
  rw[List.isEmpty_iff] at h3
  simp only[VRL] at hargs
  obtain⟨cv,ws,hcv,hx,rfl⟩:=hargs
  obtain rfl:cargs= #[cv]:=by
   cases cargs
   simp_all
  simp only[VR] at hx
  obtain⟨A,n,cc,rfl,hlen,hnc,_,hrow⟩:=hx
  cases A with
  | none=>
    intro o a next Q hnx
    rw[z5x hf hb hn,Oper.upon_enter]
    refine (hnil n cc w).mono ?_
    rintro e w' ⟨rfl,rfl⟩
    refine hnx _ _ ⟨I,ILe.refl _, ?_,fun _ _ h=>h,rfl,rfl,rfl,Nat.le_refl _,fun _ _ _ h=> .inl h⟩
    have hn0:n=0:=by
     rcases hrow with h | ⟨_,_,_,h,_⟩
     ·exact h
     ·cases h
    have:xs=[]:=List.length_eq_zero_iff.1 (by omega)
    subst this
    simp only[VR]
    exact⟨none,0,0,rfl,rfl,Nat.le_refl _,trivial, .inl rfl⟩
  | some A=>
    have hargs0:VRL (fun _=>none) I [.sl xs .nn] [Value.slice (some A) n cc]:=by
     refine VRL.keep (n:=0) (G:=G) q2t (by simp[idsL,AV.ids,h3]) ?_
     simp only[VRL,VR]
     exact⟨_,_,rfl,⟨_,_,_,rfl,hlen,hnc,by simp[TipR],hrow⟩,rfl⟩
    obtain⟨k,hk⟩:=k5b hfn hz h1 h3 h2
    intro o a next Q hnx
    refine q5s y2l j9r (x9l (by kernel_rfl)) y2m k f [.sl xs .nn] [] 0 _ _ _ hk (fun _=>none) I w #[Value.slice (some A) n cc] hargs0 ⟨himm,fun i o ho=>by simp at ho,fun i j oi oj b hi=>by simp at hi⟩ (fun _ _=>rfl) o a next Q fun cv w' he=>hnx cv w' ?_
    obtain⟨G',I',hv',hran,_⟩:=he
    refine⟨I',hran.ile,VR.keep (n:=0) q2t (by simp[AV.ids,h3]) hv',fun b y hy=> ?_,hran.fr.os,hran.fr.tape,hran.fr.output,hran.fr.size,fun b o v hv=> ?_⟩
    ·have hb:b < w.heap.size:=(Array.getElem?_eq_some_iff.1 hy).1
     rw[hran.fr.kept b hb fun i o hi=>by simp at hi]
     exact hy
    ·rcases Nat.lt_or_ge b w.heap.size with hb | hb
     ·exact .inl (hran.ifr b hb (fun i o hi=>by simp at hi) o v hv)
     ·exact .inr ⟨hb,hran.rel.imm b o v hv⟩
 ·cases hv
theorem k5c (n c:Nat) (w:World):(binOp BinOp.eql 22 (Value.slice none n c) (Value.slice none 0 0)).run Tryz.prog w= .ok (.bool true) w:=by
 rfl
theorem k5d (n c:Nat) (w:World):(binOp BinOp.eql 48 (Value.slice none n c) (Value.slice none 0 0)).run Tryz.prog w= .ok (.bool true) w:=by
 rfl
theorem k5e (n c:Nat) (w:World):(binOp BinOp.eql 50 (Value.slice none n c) (Value.slice none 0 0)).run Tryz.prog w= .ok (.bool true) w:=by
 rfl
theorem y2r (n c:Nat) (w:World):Calls Tryz.prog 92 #[.slice none n c] w fun e w'=>e= .returned (.slice none 0 0)∧w'=w:=by
 go_enter Tryz.func92,Tryz.ntmps92
 go_wp2
 rw[k5c]
 go_wp2
 go_ret
 exact⟨rfl,rfl⟩
theorem y2s (n c:Nat) (w:World):Calls Tryz.prog 93 #[.slice none n c] w fun e w'=>e= .returned (.slice none 0 0)∧w'=w:=by
 go_enter Tryz.func93,Tryz.ntmps93
 go_wp2
 rw[k5d]
 go_wp2
 go_ret
 exact⟨rfl,rfl⟩
theorem y2t (n c:Nat) (w:World):Calls Tryz.prog 94 #[.slice none n c] w fun e w'=>e= .returned (.slice none 0 0)∧w'=w:=by
 go_enter Tryz.func94,Tryz.ntmps94
 go_wp2
 rw[k5e]
 go_wp2
 go_ret
 exact⟨rfl,rfl⟩
theorem w1p:told Tryz.prog 92 (z4y 1 8):=q5y y2n rfl y2r Tryz.func92 rfl (by decide)
theorem w1q:told Tryz.prog 93 (z4y 2 24):=q5y y2o rfl y2s Tryz.func93 rfl (by decide)
theorem w1r:told Tryz.prog 94 (z4y 5 56):=q5y y2p rfl y2t Tryz.func94 rfl (by decide)
theorem y2u {a c:Nat} (ha:a < 256) (hc:c < 256):(UInt8.ofNat a==c.toUInt8)=decide ((a:Int)=(c:Int)):=by
 rw[Bool.eq_iff_iff,decide_eq_true_iff,beq_iff_eq]
 constructor
 ·intro h
  have:=congrArg UInt8.toNat h
  simp at this
  omega
 ·intro h
  have:a=c:=by omega
  subst this
  rfl
theorem j2l {c:Nat} (hc:c < 256):∀ {s:List Nat},(∀ b∈s,b < 256)→Lib.indexByte (s.map UInt8.ofNat) c.toUInt8=(match s.findIdx? (fun (b:Nat)=>decide ((b:Int)=(c:Int))) with | some i=>(i:Int) | none=> -1)
 | [],_=>rfl
 | a::s,h=>by
   have ih:=j2l hc (s:=s) fun b hb=>h b (List.mem_cons_of_mem _ hb)
   have ha:=y2u (h a List.mem_cons_self) hc
   rw[List.map_cons,Lib.indexByte,ha,ih,List.findIdx?_cons]
   by_cases hd:(a:Int)=(c:Int)
   ·simp[hd]
   ·cases hs:s.findIdx? (fun (b:Nat)=>decide ((b:Int)=(c:Int))) with
    | none=>simp[hd,hs]
    | some i=>
      have:((i:Int)== -1)=false:=by simp
      simp[hd,this]
theorem v4e:told Tryz.prog 386 x1n:=by
 intro az v hv G I w cargs hargs himm _
 obtain⟨s,c,rfl⟩:∃ s c,az=[.str s, .int .u8 c]:=by
  unfold x1n at hv
  split at hv
  ·exact⟨_,_,rfl⟩
  ·cases hv
 simp only[x1n] at hv
 split at hv
 ·rename_i hc
  injection hv with hv
  subst hv
  simp only[VRL,VR] at hargs
  obtain⟨v1,w1,h1,⟨rfl,hb⟩,v2,w2,rfl,rfl,rfl⟩:=hargs
  obtain rfl:cargs= #[.string (z7z s), .int .u8 c]:=by
   cases cargs
   simp_all
  intro o a next Q hnx
  rw[run_callFunc_extern (fn:=Tryz.f386) Tryz.func386 (by kernel_rfl) (by kernel_rfl) (by kernel_rfl) (e:=Extern.BytealgIndexByte.indexByte) (by kernel_rfl),Lib.run_indexByteString]
  simp only[Result.andThen]
  rw[Oper.upon_value]
  refine hnx _ _ ⟨I,ILe.refl _, ?_,fun _ _ h=>h,rfl,rfl,rfl,Nat.le_refl _,fun _ _ _ h=> .inl h⟩
  simp only[VR]
  obtain⟨n,rfl⟩:∃ n:Nat,c=(n:Int):=⟨c.toNat,by omega⟩
  have hn:n < 256:=by omega
  have:=j2l hn hb
  simp only[Int.toNat_natCast,z7z]
  rw[this]
  rfl
 ·cases hv
end Am
end Go.Proofs.YtahdahokpjigiaaGreatDoor
namespace Go.Proofs.YtahdahokpjigiaaGreatDoor.Am
open Go
set_option maxRecDepth 100000
noncomputable def z2p (T:List (Nat×List (List AV×AV))):AProg where
 fn f:=cFun Tryz.prog x3m (w0b f) f
 ext f:=match y2b f with
  | some sem=>some sem
  | none=>(T.find? fun p=>p.1==f).map fun p=>q0t p.2
 iters:=[325]
theorem y9c:Gam=z2p w0a:=rfl
theorem w1s {T:List (Nat×List (List AV×AV))}:q1a Tryz.prog (z2p T):=by
 intro k hk
 obtain rfl:k=325:=by simpa [z2p] using hk
 exact⟨j8r,fun args w=>z5x Tryz.func325 rfl (by decide)⟩
def Told (T:List (Nat×List (List AV×AV))):Prop:=∀ p∈T,told Tryz.prog p.1 (q0t p.2)
theorem w1t {T:List (Nat×List (List AV×AV))} (h:Told T):ProgOk Tryz.prog x3m (z2p T):=by
 refine⟨fun f af h=>⟨_,h⟩,fun f sem hs=> ?_⟩
 have main:told Tryz.prog f sem:=by
  simp only[z2p,y2b] at hs
  split at hs
  ·rename_i he
   injection hs with hs
   subst hs
   split at he
   ·rename_i h1;injection he with he;subst h1;subst he;exact w1p
   split at he
   ·rename_i h1;injection he with he;subst h1;subst he;exact w1q
   split at he
   ·rename_i h1;injection he with he;subst h1;subst he;exact w1r
   split at he
   ·rename_i h1;injection he with he;subst h1;subst he;exact v4e
   ·cases he
  ·rw[Option.map_eq_some_iff] at hs
   obtain⟨p,hp,rfl⟩:=hs
   have h1:p.1=f:=by simpa using List.find?_some hp
   subst h1
   exact h p (List.mem_of_find?_eq_some hp)
 exact main
def Borne (T:List (Nat×List (List AV×AV))) (f:Nat) (t:List (List AV×AV)):Prop:=∀ q∈t,∃ k,chk (z2p T) k f q=true
theorem Borne.nil {T:List (Nat×List (List AV×AV))} {f:Nat}:Borne T f []:=fun q hq=>by cases hq
theorem Borne.cons {T:List (Nat×List (List AV×AV))} {f k:Nat} {q:List AV×AV} {t:List (List AV×AV)} (h:chk (z2p T) k f q=true) (ht:Borne T f t):Borne T f (q::t):=fun p hp=>by
 rcases List.mem_cons.1 hp with rfl | hp
 ·exact⟨k,h⟩
 ·exact ht p hp
theorem Borne.told {T:List (Nat×List (List AV×AV))} {f:Nat} {t:List (List AV×AV)} (hT:Told T) (h:Borne T f t):told Tryz.prog f (q0t t):=k4j (w1t hT) j9r (x9l (by kernel_rfl)) w1s h
theorem z4b:Told []:=fun p hp=>by cases hp
theorem Told.snoc {T:List (Nat×List (List AV×AV))} {f:Nat} {t:List (List AV×AV)} (hT:Told T) (h:Am.told Tryz.prog f (q0t t)):Told ((f,t)::T):=fun p hp=>by
 rcases List.mem_cons.1 hp with rfl | hp
 ·exact h
 ·exact hT p hp
section
namespace Tw
def c0:AV:=(.str [40,100,101,99,108,97,114,101,45,102,117,110,32,80,32,40,73,110,116,41,32,66,111,111,108,41,40,100,101,99,108,97,114,101,45,102,117,110,32,81,32,40,73,110,116,41,32,66,111,111,108,41,40,97,115,115,101,114,116,32,40,102,111,114,97,108,108,32,40,40,120,32,73,110,116,41,41,32,40,61,62,32,40,61,32,120,32,48,41,32,40,80,32,120,41,41,41,41,40,97,115,115,101,114,116,32,40,102,111,114,97,108,108,32,40,40,120,32,73,110,116,41,41,32,40,61,62,32,40,61,32,120,32,48,41,32,40,81,32,120,41,41,41,41,40,97,115,115,101,114,116,32,40,102,111,114,97,108,108,32,40,40,120,32,73,110,116,41,41,32,40,61,62,32,40,97,110,100,32,40,80,32,120,41,32,40,81,32,120,41,41,32,102,97,108,115,101,41,41,41])
def c1:AV:= .agg [(.int .i64 5),(.str []),(.int .i64 4),(.int .i64 0)]
def c2:AV:=(.str [100,101,99,108,97,114,101,45,102,117,110])
def c3:AV:= .agg [(.int .i64 1),c2,(.int .i64 0),(.int .i64 1)]
def c4:AV:= .agg [(.int .i64 1),(.str [80]),(.int .i64 0),(.int .i64 13)]
def c5:AV:= .agg [(.int .i64 5),(.str []),(.int .i64 1),(.int .i64 15)]
def c6:AV:= .agg [(.int .i64 1),(.str [73,110,116]),(.int .i64 0),(.int .i64 16)]
def c7:AV:=(.str [66,111,111,108])
def c8:AV:= .agg [(.int .i64 1),c7,(.int .i64 0),(.int .i64 21)]
def c9:AV:= .agg [(.int .i64 5),(.str []),(.int .i64 4),(.int .i64 26)]
def c10:AV:= .agg [(.int .i64 1),c2,(.int .i64 0),(.int .i64 27)]
def c11:AV:= .agg [(.int .i64 1),(.str [81]),(.int .i64 0),(.int .i64 39)]
def c12:AV:= .agg [(.int .i64 5),(.str []),(.int .i64 1),(.int .i64 41)]
def c13:AV:= .agg [(.int .i64 1),(.str [73,110,116]),(.int .i64 0),(.int .i64 42)]
def c14:AV:= .agg [(.int .i64 1),c7,(.int .i64 0),(.int .i64 47)]
def c15:AV:= .agg [(.int .i64 5),(.str []),(.int .i64 2),(.int .i64 52)]
def c16:AV:=(.str [97,115,115,101,114,116])
def c17:AV:= .agg [(.int .i64 1),c16,(.int .i64 0),(.int .i64 53)]
def c18:AV:= .agg [(.int .i64 5),(.str []),(.int .i64 3),(.int .i64 60)]
def c19:AV:=(.str [102,111,114,97,108,108])
def c20:AV:= .agg [(.int .i64 1),c19,(.int .i64 0),(.int .i64 61)]
def c21:AV:= .agg [(.int .i64 5),(.str []),(.int .i64 1),(.int .i64 68)]
def c22:AV:= .agg [(.int .i64 5),(.str []),(.int .i64 2),(.int .i64 69)]
def c23:AV:= .agg [(.int .i64 1),(.str [120]),(.int .i64 0),(.int .i64 70)]
def c24:AV:= .agg [(.int .i64 1),(.str [73,110,116]),(.int .i64 0),(.int .i64 72)]
def c25:AV:= .agg [(.int .i64 5),(.str []),(.int .i64 3),(.int .i64 78)]
def c26:AV:= .agg [(.int .i64 1),(.str [61,62]),(.int .i64 0),(.int .i64 79)]
def c27:AV:= .agg [(.int .i64 5),(.str []),(.int .i64 3),(.int .i64 82)]
def c28:AV:= .agg [(.int .i64 1),(.str [61]),(.int .i64 0),(.int .i64 83)]
def c29:AV:= .agg [(.int .i64 1),(.str [120]),(.int .i64 0),(.int .i64 85)]
def c30:AV:= .agg [(.int .i64 2),(.str [48]),(.int .i64 0),(.int .i64 87)]
def c31:AV:= .agg [(.int .i64 5),(.str []),(.int .i64 2),(.int .i64 90)]
def c32:AV:= .agg [(.int .i64 1),(.str [80]),(.int .i64 0),(.int .i64 91)]
def c33:AV:= .agg [(.int .i64 1),(.str [120]),(.int .i64 0),(.int .i64 93)]
def c34:AV:= .agg [(.int .i64 5),(.str []),(.int .i64 2),(.int .i64 98)]
def c35:AV:= .agg [(.int .i64 1),c16,(.int .i64 0),(.int .i64 99)]
def c36:AV:= .agg [(.int .i64 5),(.str []),(.int .i64 3),(.int .i64 106)]
def c37:AV:= .agg [(.int .i64 1),c19,(.int .i64 0),(.int .i64 107)]
def c38:AV:= .agg [(.int .i64 5),(.str []),(.int .i64 1),(.int .i64 114)]
def c39:AV:= .agg [(.int .i64 5),(.str []),(.int .i64 2),(.int .i64 115)]
def c40:AV:= .agg [(.int .i64 1),(.str [120]),(.int .i64 0),(.int .i64 116)]
def c41:AV:= .agg [(.int .i64 1),(.str [73,110,116]),(.int .i64 0),(.int .i64 118)]
def c42:AV:= .agg [(.int .i64 5),(.str []),(.int .i64 3),(.int .i64 124)]
def c43:AV:= .agg [(.int .i64 1),(.str [61,62]),(.int .i64 0),(.int .i64 125)]
def c44:AV:= .agg [(.int .i64 5),(.str []),(.int .i64 3),(.int .i64 128)]
def c45:AV:= .agg [(.int .i64 1),(.str [61]),(.int .i64 0),(.int .i64 129)]
def c46:AV:= .agg [(.int .i64 1),(.str [120]),(.int .i64 0),(.int .i64 131)]
def c47:AV:= .agg [(.int .i64 2),(.str [48]),(.int .i64 0),(.int .i64 133)]
def c48:AV:= .agg [(.int .i64 5),(.str []),(.int .i64 2),(.int .i64 136)]
def c49:AV:= .agg [(.int .i64 1),(.str [81]),(.int .i64 0),(.int .i64 137)]
def c50:AV:= .agg [(.int .i64 1),(.str [120]),(.int .i64 0),(.int .i64 139)]
def c51:AV:= .agg [(.int .i64 5),(.str []),(.int .i64 2),(.int .i64 144)]
def c52:AV:= .agg [(.int .i64 1),c16,(.int .i64 0),(.int .i64 145)]
def c53:AV:= .agg [(.int .i64 5),(.str []),(.int .i64 3),(.int .i64 152)]
def c54:AV:= .agg [(.int .i64 1),c19,(.int .i64 0),(.int .i64 153)]
def c55:AV:= .agg [(.int .i64 5),(.str []),(.int .i64 1),(.int .i64 160)]
def c56:AV:= .agg [(.int .i64 5),(.str []),(.int .i64 2),(.int .i64 161)]
def c57:AV:= .agg [(.int .i64 1),(.str [120]),(.int .i64 0),(.int .i64 162)]
def c58:AV:= .agg [(.int .i64 1),(.str [73,110,116]),(.int .i64 0),(.int .i64 164)]
def c59:AV:= .agg [(.int .i64 5),(.str []),(.int .i64 3),(.int .i64 170)]
def c60:AV:= .agg [(.int .i64 1),(.str [61,62]),(.int .i64 0),(.int .i64 171)]
def c61:AV:= .agg [(.int .i64 5),(.str []),(.int .i64 3),(.int .i64 174)]
def c62:AV:= .agg [(.int .i64 1),(.str [97,110,100]),(.int .i64 0),(.int .i64 175)]
def c63:AV:= .agg [(.int .i64 5),(.str []),(.int .i64 2),(.int .i64 179)]
def c64:AV:= .agg [(.int .i64 1),(.str [80]),(.int .i64 0),(.int .i64 180)]
def c65:AV:= .agg [(.int .i64 1),(.str [120]),(.int .i64 0),(.int .i64 182)]
def c66:AV:= .agg [(.int .i64 5),(.str []),(.int .i64 2),(.int .i64 185)]
def c67:AV:= .agg [(.int .i64 1),(.str [81]),(.int .i64 0),(.int .i64 186)]
def c68:AV:= .agg [(.int .i64 1),(.str [120]),(.int .i64 0),(.int .i64 188)]
def c69:AV:=(.str [102,97,108,115,101])
def c70:AV:= .agg [(.int .i64 1),c69,(.int .i64 0),(.int .i64 192)]
def c71:AV:= .sl [c1,c3,c4,c5,c6,c8,c9,c10,c11,c12,c13,c14,c15,c17,c18,c20,c21,c22,c23,c24,c25,c26,c27,c28,c29,c30,c31,c32,c33,c34,c35,c36,c37,c38,c39,c40,c41,c42,c43,c44,c45,c46,c47,c48,c49,c50,c51,c52,c53,c54,c55,c56,c57,c58,c59,c60,c61,c62,c63,c64,c65,c66,c67,c68,c70] .no
def c72:AV:= .tup [c71,(.int .i64 0),(.int .i64 0)]
def c73:AV:= .sl [(.int .i64 0),(.int .i64 6),(.int .i64 12),(.int .i64 29),(.int .i64 46)] .no
def c74:AV:= .sl [(.int .i64 1),(.int .i64 2),(.int .i64 3),(.int .i64 5)] .no
def c75:AV:= .sl [(.int .i64 7),(.int .i64 8),(.int .i64 9),(.int .i64 11)] .no
def c76:AV:= .sl [(.int .i64 13),(.int .i64 14)] .no
def c77:AV:= .sl [(.int .i64 15),(.int .i64 16),(.int .i64 20)] .no
def c78:AV:= .sl [(.int .i64 18),(.int .i64 19)] .no
def c79:AV:= .agg [(.str [120]),(.int .i64 2)]
def c80:AV:= .sl [c79] .no
def c81:AV:= .tup [c80,(.int .i64 0)]
def c82:AV:= .sl [(.int .i64 21),(.int .i64 22),(.int .i64 26)] .no
def c83:AV:= .sl [(.int .i64 23),(.int .i64 24),(.int .i64 25)] .no
def c84:AV:= .agg [(.int .i64 4),(.int .i64 2),(.str [120]),(.str []),(.int .i64 0)]
def c85:AV:= .sl [c84] .no
def c86:AV:= .agg [(.int .i64 3),(.int .i64 2),(.str []),(.str [48]),(.int .i64 0)]
def c87:AV:= .sl [c86] .no
def c88:AV:= .agg [(.int .i64 11),(.int .i64 0),(.str []),(.str []),(.int .i64 0)]
def c89:AV:= .sl [c85,c87] .no
def c90:AV:= .agg [(.int .i64 11),(.int .i64 0),(.str []),(.str []),(.int .i64 2)]
def c91:AV:= .sl [c90,c84,c86] .no
def c92:AV:= .tup [c91,(.int .i64 0)]
def c93:AV:= .sl [(.int .i64 27),(.int .i64 28)] .no
def c94:AV:= .agg [(.int .i64 5),(.int .i64 1),(.str [80]),(.str []),(.int .i64 0)]
def c95:AV:= .sl [c85] .no
def c96:AV:= .agg [(.int .i64 5),(.int .i64 1),(.str [80]),(.str []),(.int .i64 1)]
def c97:AV:= .sl [c96,c84] .no
def c98:AV:= .tup [c97,(.int .i64 0)]
def c99:AV:= .agg [(.int .i64 9),(.int .i64 0),(.str []),(.str []),(.int .i64 0)]
def y9d:AV:= .sl [c91,c97] .no
def u2u:AV:= .agg [(.int .i64 9),(.int .i64 0),(.str []),(.str []),(.int .i64 2)]
def y9e:AV:= .sl [u2u,c90,c84,c86,c96,c84] .no
def y2v:AV:= .tup [y9e,(.int .i64 0)]
def u2v:AV:= .agg [(.str [80]),(.sl [(.int .i64 2)] .no),(.int .i64 1)]
def u2w:AV:= .agg [(.str [81]),(.sl [(.int .i64 2)] .no),(.int .i64 1)]
def u2x:AV:= .sl [u2v,u2w] .no
def y9f:AV:= .tup [y9e,(.int .i64 0),(.int .i64 0)]
def y9g:AV:= .agg [c80,(.sl [] .no),c91,(.str [80]),c95]
def u2y:AV:= .sl [y9g] .no
def u2z:AV:= .agg [u2x,u2y]
def u3a:AV:= .sl [(.int .i64 30),(.int .i64 31)] .no
def u3b:AV:= .sl [(.int .i64 32),(.int .i64 33),(.int .i64 37)] .no
def u3c:AV:= .sl [(.int .i64 35),(.int .i64 36)] .no
def u3d:AV:= .sl [(.int .i64 38),(.int .i64 39),(.int .i64 43)] .no
def u3e:AV:= .sl [(.int .i64 40),(.int .i64 41),(.int .i64 42)] .no
def u3f:AV:= .sl [(.int .i64 44),(.int .i64 45)] .no
def u3g:AV:= .agg [(.int .i64 5),(.int .i64 1),(.str [81]),(.str []),(.int .i64 0)]
def u3h:AV:= .agg [(.int .i64 5),(.int .i64 1),(.str [81]),(.str []),(.int .i64 1)]
def u3i:AV:= .sl [u3h,c84] .no
def y2w:AV:= .tup [u3i,(.int .i64 0)]
def y1s:AV:= .sl [c91,u3i] .no
def u3j:AV:= .sl [u2u,c90,c84,c86,u3h,c84] .no
def u3k:AV:= .tup [u3j,(.int .i64 0)]
def u3l:AV:= .tup [u3j,(.int .i64 0),(.int .i64 0)]
def y9h:AV:= .agg [c80,(.sl [] .no),c91,(.str [81]),c95]
def y2x:AV:= .sl [y9h] .no
def u3m:AV:= .agg [u2x,y2x]
def y9i:AV:= .sl [(.int .i64 47),(.int .i64 48)] .no
def y9j:AV:= .sl [(.int .i64 49),(.int .i64 50),(.int .i64 54)] .no
def u3n:AV:= .sl [(.int .i64 52),(.int .i64 53)] .no
def y2y:AV:= .sl [(.int .i64 55),(.int .i64 56),(.int .i64 64)] .no
def u3o:AV:= .sl [(.int .i64 57),(.int .i64 58),(.int .i64 61)] .no
def u3p:AV:= .sl [(.int .i64 59),(.int .i64 60)] .no
def y2z:AV:= .sl [(.int .i64 62),(.int .i64 63)] .no
def u3q:AV:= .agg [(.int .i64 7),(.int .i64 0),(.str []),(.str []),(.int .i64 0)]
def u3r:AV:= .sl [c97,u3i] .no
def u3s:AV:= .agg [(.int .i64 7),(.int .i64 0),(.str []),(.str []),(.int .i64 2)]
def y9k:AV:= .sl [u3s,c96,c84,u3h,c84] .no
def y9l:AV:= .tup [y9k,(.int .i64 0)]
def u3t:AV:= .agg [(.int .i64 2),(.int .i64 0),(.str []),(.str []),(.int .i64 0)]
def u3u:AV:= .sl [u3t] .no
def u3v:AV:= .sl [y9k,u3u] .no
def y9m:AV:= .sl [u2u,u3s,c96,c84,u3h,c84,u3t] .no
def u3w:AV:= .tup [y9m,(.int .i64 0)]
def g5b:AV:= .tup [y9m,(.int .i64 0),(.int .i64 0)]
def g5c:AV:= .agg [(.int .i64 1),(.int .i64 0),(.str []),(.str []),(.int .i64 0)]
def g3i:AV:= .sl [g5c] .no
def g3j:AV:= .agg [(.str [80]),c95]
def g5d:AV:= .agg [(.str [81]),c95]
def g5e:AV:= .sl [g3j,g5d] .no
def g4f:AV:= .agg [c80,g5e,g3i,(.str []),(.sl [] .no)]
def g5f:AV:= .sl [g4f] .no
def g5g:AV:= .agg [u2x,g5f]
def g5h:AV:= .sl [y9g,y9h,g4f] .no
def g4g:AV:= .agg [u2x,g5h]
def g4h:AV:= .agg [(.int .i64 6),(.str [81]),(.str [80]),(.int .i64 0),(.int .i64 0),(.sl [] .no),(.sl [] .no),(.sl [] .no)]
def g5i:AV:= .tup [g4h,(.int .i64 0)]
def g5j:AV:= .sl [u2v] .no
def g5k:AV:= .sl [g3j,g3j] .no
def g5l:AV:= .agg [c80,g5k,g3i,(.str []),(.sl [] .no)]
def g5m:AV:= .sl [y9g,g5l] .no
def g4i:AV:= .agg [g5j,g5m]
def g5n:AV:= .tup [g4i,(.int .i64 0)]
def w1u:List AV×AV:=([c0],c72)
def t54:List (List AV×AV):=[w1u]
def w1v:List AV×AV:=([c71],c73)
def t55:List (List AV×AV):=[w1v]
def w1w:List AV×AV:=([c71,(.int .i64 0)],c74)
def w1x:List AV×AV:=([c71,(.int .i64 3)],(.sl [(.int .i64 4)] .no))
def w1y:List AV×AV:=([c71,(.int .i64 6)],c75)
def w1z:List AV×AV:=([c71,(.int .i64 9)],(.sl [(.int .i64 10)] .no))
def w2a:List AV×AV:=([c71,(.int .i64 12)],c76)
def w2b:List AV×AV:=([c71,(.int .i64 14)],c77)
def w2c:List AV×AV:=([c71,(.int .i64 16)],(.sl [(.int .i64 17)] .no))
def w2d:List AV×AV:=([c71,(.int .i64 17)],c78)
def w2e:List AV×AV:=([c71,(.int .i64 20)],c82)
def w2f:List AV×AV:=([c71,(.int .i64 22)],c83)
def k9p:List AV×AV:=([c71,(.int .i64 26)],c93)
def k9q:List AV×AV:=([c71,(.int .i64 29)],u3a)
def k9r:List AV×AV:=([c71,(.int .i64 31)],u3b)
def k9s:List AV×AV:=([c71,(.int .i64 33)],(.sl [(.int .i64 34)] .no))
def k9t:List AV×AV:=([c71,(.int .i64 34)],u3c)
def k9u:List AV×AV:=([c71,(.int .i64 37)],u3d)
def k9v:List AV×AV:=([c71,(.int .i64 39)],u3e)
def k9w:List AV×AV:=([c71,(.int .i64 43)],u3f)
def k9x:List AV×AV:=([c71,(.int .i64 46)],y9i)
def k9y:List AV×AV:=([c71,(.int .i64 48)],y9j)
def k9z:List AV×AV:=([c71,(.int .i64 50)],(.sl [(.int .i64 51)] .no))
def g0r:List AV×AV:=([c71,(.int .i64 51)],u3n)
def g0s:List AV×AV:=([c71,(.int .i64 54)],y2y)
def g0t:List AV×AV:=([c71,(.int .i64 56)],u3o)
def g0u:List AV×AV:=([c71,(.int .i64 58)],u3p)
def g0v:List AV×AV:=([c71,(.int .i64 61)],y2z)
def t56:List (List AV×AV):=[w1w,w1x,w1y,w1z,w2a,w2b,w2c,w2d,w2e,w2f,k9p,k9q,k9r,k9s,k9t,k9u,k9v,k9w,k9x,k9y,k9z,g0r,g0s,g0t,g0u,g0v]
def v0a:List AV×AV:=([c85],(.int .i64 2))
def v0b:List AV×AV:=([c87],(.int .i64 2))
def v0c:List AV×AV:=([c91],(.int .i64 1))
def v0d:List AV×AV:=([c97],(.int .i64 1))
def v0e:List AV×AV:=([y9e],(.int .i64 1))
def v0f:List AV×AV:=([u3i],(.int .i64 1))
def v0g:List AV×AV:=([u3j],(.int .i64 1))
def v0h:List AV×AV:=([y9k],(.int .i64 1))
def v0i:List AV×AV:=([u3u],(.int .i64 1))
def v0j:List AV×AV:=([y9m],(.int .i64 1))
def j9s:List AV×AV:=([g3i],(.int .i64 1))
def y9n:List (List AV×AV):=[v0a,v0b,v0c,v0d,v0e,v0f,v0g,v0h,v0i,v0j,j9s]
def g2b:List AV×AV:=([g4g],g5i)
def t11:List (List AV×AV):=[g2b]
def g2c:List AV×AV:=([g4g,g4h],g5n)
def t15:List (List AV×AV):=[g2c]
def v0k:List AV×AV:=([c88,c89],c92)
def v0l:List AV×AV:=([c94,c95],c98)
def v0m:List AV×AV:=([c99,y9d],y2v)
def v0n:List AV×AV:=([u3g,c95],y2w)
def v0o:List AV×AV:=([c99,y1s],u3k)
def v0p:List AV×AV:=([u3q,u3r],y9l)
def v0q:List AV×AV:=([c99,u3v],u3w)
def y9o:List (List AV×AV):=[v0k,v0l,v0m,v0n,v0o,v0p,v0q]
def v0r:List AV×AV:=([c71,(.int .i64 16)],c81)
def v0s:List AV×AV:=([c71,(.int .i64 33)],c81)
def g0w:List AV×AV:=([c71,(.int .i64 50)],c81)
def y9p:List (List AV×AV):=[v0r,v0s,g0w]
def w2i:List AV×AV:=([u2z],(.bool true))
def w2j:List AV×AV:=([u3m],(.bool true))
def w2k:List AV×AV:=([g5g],(.bool true))
def w2l:List AV×AV:=([g4i],(.bool true))
def t28:List (List AV×AV):=[w2i,w2j,w2k,w2l]
def v0t:List AV×AV:=([c71,(.int .i64 20),c80,u2x],y9f)
def v0u:List AV×AV:=([c71,(.int .i64 37),c80,u2x],u3l)
def v0v:List AV×AV:=([c71,(.int .i64 54),c80,u2x],g5b)
def y9q:List (List AV×AV):=[v0t,v0u,v0v]
end Tw
open Tw
def tw1:List (Nat×List (List AV×AV)):=(100,t54)::(101,t55)::(102,t56)::(165,y9n)::(30,t11)::(10,t15)::[]
def tw2:List (Nat×List (List AV×AV)):=(328,y9o)::(162,y9p)::(44,t28)::tw1
def tw3:List (Nat×List (List AV×AV)):=(164,y9q)::tw2
end
end Go.Proofs.YtahdahokpjigiaaGreatDoor.Am
