/- Functions of the abstract machine's program Walking: slices Walking: nodes are permitted, and have their sorts Walking: nodes are permitted, and have their sorts Walking: a term is looked at from its  -/
import Derived.Test.YtkollgjffkdliaaGreatDoorK24
open Bool renaming false_eq_true → j9,not_true → z8
open Int renaming cast_ofNat_Int → z9,natAbs_natCast → u5,reduceEq → z7,reduceLT → u6,reduceNegSucc → z5,reduceOfNat → z4,toNat_natCast → m7
open List renaming append_eq_nil_iff → n7,cons_append → y6,drop_eq_getElem_cons → b6,drop_zero → u9,getElem?_append_left → g9,getElem?_append_right → b0,getElem?_cons_succ → l9,getElem?_eq_some_iff → x9,getElem?_map → m8,getElem_mem → x8,length_append → k7,length_cons → v5,length_map → z6,length_singleton → v6,map_append → v8,map_cons → j4,map_nil → k8,mem_append → x4,mem_cons → j6,mem_cons_of_mem → v7,mem_cons_self → j7,replicate → x3,take_succ_eq_append_getElem → w7
open Nat renaming add_assoc → d3,le_refl → x7,zero_add → k6
open Option renaming map_some → j5
open Nat renaming reduceBEq → z0,reduceAdd → z1,reduceLeDiff → z2,reduceSub → z3
set_option linter.all false
namespace Go.Proofs.YtkollgjffkdliaaGreatDoor.Am
open Go
noncomputable section
set_option maxRecDepth 100000
section
open Sh
set_option maxHeartbeats 0
def q21:AFun:=(fun (a:AFun) (_:Gam.fn 7=some a)=>a) _ (by conv=>lhs;reduce;simp only[z4,z5])
def j1h:ACode:=(fun (a:ACode) (_:fl [] (lp q21 0)=a)=>a) _ (by conv=>lhs;reduce;simp only[z4,z5])
attribute [local irreducible] j1h
def u3o:AFun:=(fun (a:AFun) (_:flF [j1h] q21=a)=>a) _ (by conv=>lhs;reduce;simp only[z4,z5])
theorem u6n:Gam.fn 7=some u3o:=by kernel_rfl
def q44:AFun:=(fun (a:AFun) (_:Gam.fn 29=some a)=>a) _ (by conv=>lhs;reduce;simp only[z4,z5])
def x5k:ACode:=(fun (a:ACode) (_:fl [] (lp q44 1)=a)=>a) _ (by conv=>lhs;reduce;simp only[z4,z5])
attribute [local irreducible] x5k
def k7y:ACode:=(fun (a:ACode) (_:fl [x5k] (lp q44 0)=a)=>a) _ (by conv=>lhs;reduce;simp only[z4,z5])
attribute [local irreducible] k7y
def u3p:AFun:=(fun (a:AFun) (_:flF [k7y,x5k] q44=a)=>a) _ (by conv=>lhs;reduce;simp only[z4,z5])
theorem u6o:Gam.fn 29=some u3p:=by kernel_rfl
def q45:AFun:=(fun (a:AFun) (_:Gam.fn 30=some a)=>a) _ (by conv=>lhs;reduce;simp only[z4,z5])
def j1i:ACode:=(fun (a:ACode) (_:fl [] (lp q45 2)=a)=>a) _ (by conv=>lhs;reduce;simp only[z4,z5])
attribute [local irreducible] j1i
def q5i:ACode:=(fun (a:ACode) (_:fl [j1i] (lp q45 1)=a)=>a) _ (by conv=>lhs;reduce;simp only[z4,z5])
attribute [local irreducible] q5i
def k7z:ACode:=(fun (a:ACode) (_:fl [q5i,j1i] (lp q45 0)=a)=>a) _ (by conv=>lhs;reduce;simp only[z4,z5])
attribute [local irreducible] k7z
def u3q:AFun:=(fun (a:AFun) (_:flF [k7z,q5i,j1i] q45=a)=>a) _ (by conv=>lhs;reduce;simp only[z4,z5])
theorem u6p:Gam.fn 30=some u3q:=by kernel_rfl
def u3r:AFun:=(fun (a:AFun) (_:Gam.fn 71=some a)=>a) _ (by conv=>lhs;reduce;simp only[z4,z5])
theorem u6q:Gam.fn 71=some u3r:=by kernel_rfl
def w0b:AFun:=(fun (a:AFun) (_:Gam.fn 128=some a)=>a) _ (by conv=>lhs;reduce;simp only[z4,z5])
theorem u0d:Gam.fn 128=some w0b:=by kernel_rfl
def u3s:AFun:=(fun (a:AFun) (_:Gam.fn 89=some a)=>a) _ (by conv=>lhs;reduce;simp only[z4,z5])
theorem u6r:Gam.fn 89=some u3s:=by kernel_rfl
def u3t:AFun:=(fun (a:AFun) (_:Gam.fn 152=some a)=>a) _ (by conv=>lhs;reduce;simp only[z4,z5])
def x3d:ACode:=(fun (a:ACode) (_:fl [] (lp u3t 0)=a)=>a) _ (by conv=>lhs;reduce;simp only[z4,z5])
attribute [local irreducible] x3d
def y1y:AFun:=(fun (a:AFun) (_:flF [x3d] u3t=a)=>a) _ (by conv=>lhs;reduce;simp only[z4,z5])
theorem u0e:Gam.fn 152=some y1y:=by kernel_rfl
def u3u:AFun:=(fun (a:AFun) (_:Gam.fn 28=some a)=>a) _ (by conv=>lhs;reduce;simp only[z4,z5])
theorem u6s:Gam.fn 28=some u3u:=by kernel_rfl
def q61:AFun:=(fun (a:AFun) (_:Gam.fn 70=some a)=>a) _ (by conv=>lhs;reduce;simp only[z4,z5])
def k8a:ACode:=(fun (a:ACode) (_:fl [] (lp q61 0)=a)=>a) _ (by conv=>lhs;reduce;simp only[z4,z5])
attribute [local irreducible] k8a
def u3v:AFun:=(fun (a:AFun) (_:flF [k8a] q61=a)=>a) _ (by conv=>lhs;reduce;simp only[z4,z5])
theorem u6t:Gam.fn 70=some u3v:=by kernel_rfl
def u3w:AFun:=(fun (a:AFun) (_:Gam.fn 122=some a)=>a) _ (by conv=>lhs;reduce;simp only[z4,z5])
def j4l:ACode:=(fun (a:ACode) (_:fl [] (lp u3w 0)=a)=>a) _ (by conv=>lhs;reduce;simp only[z4,z5])
attribute [local irreducible] j4l
def y1z:AFun:=(fun (a:AFun) (_:flF [j4l] u3w=a)=>a) _ (by conv=>lhs;reduce;simp only[z4,z5])
theorem y2a:Gam.fn 122=some y1z:=by kernel_rfl
def y2b:AFun:=(fun (a:AFun) (_:Gam.fn 123=some a)=>a) _ (by conv=>lhs;reduce;simp only[z4,z5])
theorem u0f:Gam.fn 123=some y2b:=by kernel_rfl
def u3x:AFun:=(fun (a:AFun) (_:Gam.fn 196=some a)=>a) _ (by conv=>lhs;reduce;simp only[z4,z5])
def x3e:ACode:=(fun (a:ACode) (_:fl [] (lp u3x 0)=a)=>a) _ (by conv=>lhs;reduce;simp only[z4,z5])
attribute [local irreducible] x3e
def y2c:AFun:=(fun (a:AFun) (_:flF [x3e] u3x=a)=>a) _ (by conv=>lhs;reduce;simp only[z4,z5])
theorem u0g:Gam.fn 196=some y2c:=by kernel_rfl
def y2d:AFun:=(fun (a:AFun) (_:Gam.fn 126=some a)=>a) _ (by conv=>lhs;reduce;simp only[z4,z5])
theorem u0h:Gam.fn 126=some y2d:=by kernel_rfl
def y2e:AFun:=(fun (a:AFun) (_:Gam.fn 127=some a)=>a) _ (by conv=>lhs;reduce;simp only[z4,z5])
theorem u0i:Gam.fn 127=some y2e:=by kernel_rfl
def k2i:ACode:=(.seq (.region 1 [N 10 (.binOp .lss (.one .int) (.tmp 9) (.tmp 8))] []) (.seq (.cond (.tmp 10) .skip (.exit 0)) (.seq (.block 1 (.seq (.region 4 [N 11 (.indexAddr none 2 (.tmp 7) (.tmp 9)),N 12 (.load (some 2) (.tmp 11)),N 5 (.alloc 1 (.agg [(.str []),(.int .i64 0)])),S 2 5 12] []) (.region 3 [M 13 3,N 14 (.load (some 2) (.tmp 5)),⟨none, .mapUpdate (.agg [.str, .int]) (.tmp 13) (.tmp 14) (.const (.bool true)),none⟩] []))) (.region 2 [N 15 (.binOp .add (.one .int) (.tmp 9) (I 1)),M 9 15] []))))
def y2f:AFun:=
 {ntmps:=17,nslots:=2,results:=[.tmp 2],byref:=[],owned:=false,
  body:=(.seq (.region 1 [N 2 (.move (.const .nilmap))] []) (.seq (.region 2 [N 6 (.makeMap 0),M 3 6] []) (.seq (.seq (.region 3 [M 7 0,N 8 (.len .sl (.tmp 7)),N 9 (.move (I 0))] []) (.block 0 (.loop k2i))) (.seq (.region 2 [M 16 3,M 2 16] []) .ret))))}
theorem u0j:Gam.fn 200=some y2f:=by kernel_rfl
def u3y:AFun:=(fun (a:AFun) (_:Gam.fn 201=some a)=>a) _ (by conv=>lhs;reduce;simp only[z4,z5])
def j4m:ACode:=(fun (a:ACode) (_:fl [] (lp u3y 0)=a)=>a) _ (by conv=>lhs;reduce;simp only[z4,z5])
attribute [local irreducible] j4m
def y2g:AFun:=(fun (a:AFun) (_:flF [j4m] u3y=a)=>a) _ (by conv=>lhs;reduce;simp only[z4,z5])
theorem u0k:Gam.fn 201=some y2g:=by kernel_rfl
def y2h:AFun:=(fun (a:AFun) (_:Gam.fn 202=some a)=>a) _ (by conv=>lhs;reduce;simp only[z4,z5])
theorem u0l:Gam.fn 202=some y2h:=by kernel_rfl
def u3z:AFun:=(fun (a:AFun) (_:Gam.fn 203=some a)=>a) _ (by conv=>lhs;reduce;simp only[z4,z5])
def j4n:ACode:=(fun (a:ACode) (_:fl [] (lp u3z 0)=a)=>a) _ (by conv=>lhs;reduce;simp only[z4,z5])
attribute [local irreducible] j4n
def y2i:AFun:=(fun (a:AFun) (_:flF [j4n] u3z=a)=>a) _ (by conv=>lhs;reduce;simp only[z4,z5])
theorem u0m:Gam.fn 203=some y2i:=by kernel_rfl
def y2j:AFun:=(fun (a:AFun) (_:Gam.fn 204=some a)=>a) _ (by conv=>lhs;reduce;simp only[z4,z5])
theorem u0n:Gam.fn 204=some y2j:=by kernel_rfl
def y2k:AFun:=(fun (a:AFun) (_:Gam.fn 159=some a)=>a) _ (by conv=>lhs;reduce;simp only[z4,z5])
theorem u0o:Gam.fn 159=some y2k:=by kernel_rfl
def u4a:AFun:=(fun (a:AFun) (_:Gam.fn 227=some a)=>a) _ (by conv=>lhs;reduce;simp only[z4,z5])
def x3f:ACode:=(fun (a:ACode) (_:fl [] (lp u4a 0)=a)=>a) _ (by conv=>lhs;reduce;simp only[z4,z5])
attribute [local irreducible] x3f
def y2l:AFun:=(fun (a:AFun) (_:flF [x3f] u4a=a)=>a) _ (by conv=>lhs;reduce;simp only[z4,z5])
theorem u0p:Gam.fn 227=some y2l:=by kernel_rfl
def w0c:AFun:=
 {ntmps:=8,nslots:=1,results:=[.tmp 3],byref:=[],owned:=false,
  body:=(.seq (.region 2 [N 2 (.box 0 (.tmp 0)),N 3 (.move (.const (.bool false)))] []) (.seq (.region 5 [L 4 1,N 5 (.load (some 2) (.tmp 2)),N 6 (.lookup (.agg [.str, .int]) (.bool false) (.tmp 4) (.tmp 5) false),N 7 (.unOp .not (.tmp 6)),M 3 7] []) .ret))}
theorem u0q:Gam.fn 256=some w0c:=by kernel_rfl
def y2m:AFun:=(fun (a:AFun) (_:Gam.fn 199=some a)=>a) _ (by conv=>lhs;reduce;simp only[z4,z5])
theorem u0r:Gam.fn 199=some y2m:=by kernel_rfl
end
theorem k8b {α:Type} {enc:α→AV} {xs:List α} {S:List (Nat×AObj)} {c:Nat} {cap:List AV} {P:α→Bool} {t:Tip} (hE:∀ x,(enc x).cells.length=1) (hld:∀ x h,q1n h none (.iptr (enc x).cells 0)=some (enc x,h)) (hid:∀ x,(enc x).ids=[]) (hl:xs.length≤2 ^ 20) (hC:Cov S (z0i cap)) (hP:∀ x∈xs,Reads S c (enc x::cap) (.bool (P x))):
  ∃ r:Int,decide (0≤r)=xs.any P∧Reads S 255 [.sl (xs.map enc) t, .fn c cap] (.int .i64 r):=by
 have hC':Cov S (z0i [.sl (xs.map enc) .no, .fn c cap]):=by
  have:z0i [.sl (xs.map enc) .no, .fn c cap]=z0i cap:=by simp[z0i,AV.ids,z0d hid]
  rw[this];exact hC
 have key:∀ n,n≤xs.length→∃ r:Int,decide (0≤r)=(xs.drop (xs.length - n)).any P∧∀ (D L:List AObj) (B clk:Nat) (ks:List Kf) (ts:Tmps) (Q:Post),Has S D→ts 0= .sl (xs.map enc) .no→ts 1= .fn c cap→ts 7= .int .i64 (xs.length:Int)→ts 8= .int .i64 ((xs.length - n:Nat):Int)→
   (∀ ts' clk',ts' 4= .int .i64 r→K Gam B .ret ks ⟨ts',D++L,clk'⟩ Q)→(r= -1→∀ ts' clk',K Gam B (.exit 0) ks ⟨ts',D++L,clk'⟩ Q)→K Gam B (.loop x3a) ks ⟨ts,D++L,clk⟩ Q:=by
  intro n
  induction n with
  | zero=>
    intro _
    refine⟨-1,by simp,fun D L B clk ks ts Q hS h0 h1 h7 h8 _ hx=> ?_⟩
    have e1:decide (((xs.length - 0:Nat):Int) < (xs.length:Int))=false:=by rw[n9];omega
    refine z3t ?_
    simp only[go_sem,h0,h1,h7,h8,x3a,e1]
    exact hx rfl _ _
  | succ n ih=>
    intro hn
    have hk:xs.length - (n + 1) < xs.length:=by omega
    have hdr:xs.drop (xs.length - (n + 1))=xs[xs.length - (n + 1)]::xs.drop (xs.length - n):=by
     rw[b6 hk]
     congr 2
     omega
    have e1:decide (((xs.length - (n + 1):Nat):Int) < (xs.length:Int))=true:=by rw[r8];omega
    have hpx:=hP _ (x8 hk)
    generalize hxx:xs[xs.length - (n + 1)]=x at hdr hpx
    have hidx:∀ h,z1v h 1 (.sl (xs.map enc) .no) (.int .i64 ((xs.length - (n + 1):Nat):Int))=some (.iptr (enc x).cells 0,h):=fun h=>by
     rw[←hxx]
     exact z4i (by simp[hk]) (hE _)
    have hcx:∀ h,q1n h none (.iptr (enc x).cells 0)=some (enc x,h):=hld x
    cases hpb:P x with
    | true=>
      refine⟨((xs.length - (n + 1):Nat):Int), ?_,fun D L B clk ks ts Q hS h0 h1 h7 h8 hr _=> ?_⟩
      ·rw[hdr,List.any_cons,hpb,Bool.true_or,r8];omega
      ·refine z3t ?_
       rw[hpb] at hpx
       simp only[go_sem,z0,z1,z2,z3,reduceCtorEq,↓reduceIte,h0,h1,h7,h8,x3a,e1,hidx,hcx,z0u hpx hS.app]
       exact hr _ _ (by simp[z0b])
    | false=>
      obtain⟨r,h1',h2'⟩:=ih (by omega)
      refine⟨r,by rw[h1',hdr,List.any_cons,hpb,Bool.false_or],fun D L B clk ks ts Q hS h0 h1 h7 h8 hr hx=> ?_⟩
      have e2:IntKind.i64.wrap (((xs.length - (n + 1):Nat):Int) + 1)=((xs.length - n:Nat):Int):=by rw[z0c (by omega) (by omega)];omega
      refine z3t ?_
      rw[hpb] at hpx
      simp only[go_sem,z0,z1,z2,z3,reduceCtorEq,↓reduceIte,h0,h1,h7,h8,x3a,e1,hidx,hcx,z0u hpx hS.app,e2]
      exact h2' D L B _ ks _ Q hS (by simp[z0b,h0]) (by simp[z0b,h1]) (by simp[z0b,h7]) (by simp[z0b]) hr hx
 obtain⟨r,h1,h2⟩:=key xs.length (x7 _)
 rw[Nat.sub_self,u9] at h1
 refine⟨r,h1,Reads.of rfl u0b rfl rfl rfl rfl (by simpa [cvL,AV.cv] using hC') fun D B clk T hB hS hlt hT=> ?_⟩
 simp only[go_sem,y1s,z6]
 refine h2 D _ B _ _ _ _ hS (by simp[z0b,z3p]) (by simp[z0b,z8c,z3p]) (by simp[z0b]) (by simp[z0b]) (fun ts' clk' q4=> ?_) (fun hr0 ts' clk'=> ?_)
 ·simp only[go_sem,q4]
  rw[z2c]
  exact hT _ hS.app
 ·simp only[go_sem,]
  rw[z2c,←hr0]
  exact hT _ hS.app
theorem k8c {α:Type} {enc:α→AV} {xs:List α} {S:List (Nat×AObj)} {c:Nat} {cap:List AV} {P:α→Bool} {t:Tip} (hE:∀ x,(enc x).cells.length=1) (hld:∀ x h,q1n h none (.iptr (enc x).cells 0)=some (enc x,h)) (hid:∀ x,(enc x).ids=[]) (hl:xs.length≤2 ^ 20) (hC:Cov S (z0i cap)) (hP:∀ x∈xs,Reads S c (enc x::cap) (.bool (P x))):
  Reads S 197 [.sl (xs.map enc) t, .fn c cap] (.bool (xs.any P)):=by
 obtain⟨r,h1,h2⟩:=k8b (t:= .no) hE hld hid hl hC hP
 have hC':Cov S (z0i [.sl (xs.map enc) .no, .fn c cap]):=by
  have:z0i [.sl (xs.map enc) .no, .fn c cap]=z0i cap:=by simp[z0i,AV.ids,z0d hid]
  rw[this];exact hC
 refine Reads.of rfl u0a rfl rfl rfl rfl (by simpa [cvL,AV.cv] using hC') fun D B clk T hB hS hlt hT=> ?_
 simp only[go_sem,y1r,z0u h2 hS.app,h1]
 rw[z0e]
 exact hT _ hS.app
theorem k8d {α:Type} {enc:α→AV} {xs:List α} {S:List (Nat×AObj)} {c:Nat} {cap:List AV} {P:α→Bool} {t:Tip} (hE:∀ x,(enc x).cells.length=2) (hld:∀ x h,q1n h (some 2) (.iptr (enc x).cells 0)=some (enc x,h)) (hid:∀ x,(enc x).ids=[]) (hl:xs.length≤2 ^ 20) (hC:Cov S (z0i cap)) (hP:∀ x∈xs,Reads S c (enc x::cap) (.bool (P x))):
  ∃ r:Int,decide (0≤r)=xs.any P∧Reads S 152 [.sl (xs.map enc) t, .fn c cap] (.int .i64 r):=by
 have hC':Cov S (z0i [.sl (xs.map enc) .no, .fn c cap]):=by
  have:z0i [.sl (xs.map enc) .no, .fn c cap]=z0i cap:=by simp[z0i,AV.ids,z0d hid]
  rw[this];exact hC
 have key:∀ n,n≤xs.length→∃ r:Int,decide (0≤r)=(xs.drop (xs.length - n)).any P∧∀ (D L:List AObj) (B clk:Nat) (ks:List Kf) (ts:Tmps) (Q:Post),Has S D→ts 0= .sl (xs.map enc) .no→ts 1= .fn c cap→ts 7= .int .i64 (xs.length:Int)→ts 8= .int .i64 ((xs.length - n:Nat):Int)→
   (∀ ts' clk',ts' 4= .int .i64 r→K Gam B .ret ks ⟨ts',D++L,clk'⟩ Q)→(r= -1→∀ ts' clk',K Gam B (.exit 0) ks ⟨ts',D++L,clk'⟩ Q)→K Gam B (.loop x3d) ks ⟨ts,D++L,clk⟩ Q:=by
  intro n
  induction n with
  | zero=>
    intro _
    refine⟨-1,by simp,fun D L B clk ks ts Q hS h0 h1 h7 h8 _ hx=> ?_⟩
    have e1:decide (((xs.length - 0:Nat):Int) < (xs.length:Int))=false:=by rw[n9];omega
    refine z3t ?_
    simp only[go_sem,h0,h1,h7,h8,x3d,e1]
    exact hx rfl _ _
  | succ n ih=>
    intro hn
    have hk:xs.length - (n + 1) < xs.length:=by omega
    have hdr:xs.drop (xs.length - (n + 1))=xs[xs.length - (n + 1)]::xs.drop (xs.length - n):=by
     rw[b6 hk]
     congr 2
     omega
    have e1:decide (((xs.length - (n + 1):Nat):Int) < (xs.length:Int))=true:=by rw[r8];omega
    have hpx:=hP _ (x8 hk)
    generalize hxx:xs[xs.length - (n + 1)]=x at hdr hpx
    have hidx:∀ h,z1v h 2 (.sl (xs.map enc) .no) (.int .i64 ((xs.length - (n + 1):Nat):Int))=some (.iptr (enc x).cells 0,h):=fun h=>by
     rw[←hxx]
     exact z4i (by simp[hk]) (hE _)
    have hcx:∀ h,q1n h (some 2) (.iptr (enc x).cells 0)=some (enc x,h):=hld x
    cases hpb:P x with
    | true=>
      refine⟨((xs.length - (n + 1):Nat):Int), ?_,fun D L B clk ks ts Q hS h0 h1 h7 h8 hr _=> ?_⟩
      ·rw[hdr,List.any_cons,hpb,Bool.true_or,r8];omega
      ·refine z3t ?_
       rw[hpb] at hpx
       simp only[go_sem,z0,z1,z2,z3,reduceCtorEq,↓reduceIte,h0,h1,h7,h8,x3d,e1,hidx,hcx,z0u hpx hS.app]
       exact hr _ _ (by simp[z0b])
    | false=>
      obtain⟨r,h1',h2'⟩:=ih (by omega)
      refine⟨r,by rw[h1',hdr,List.any_cons,hpb,Bool.false_or],fun D L B clk ks ts Q hS h0 h1 h7 h8 hr hx=> ?_⟩
      have e2:IntKind.i64.wrap (((xs.length - (n + 1):Nat):Int) + 1)=((xs.length - n:Nat):Int):=by rw[z0c (by omega) (by omega)];omega
      refine z3t ?_
      rw[hpb] at hpx
      simp only[go_sem,z0,z1,z2,z3,reduceCtorEq,↓reduceIte,h0,h1,h7,h8,x3d,e1,hidx,hcx,z0u hpx hS.app,e2]
      exact h2' D L B _ ks _ Q hS (by simp[z0b,h0]) (by simp[z0b,h1]) (by simp[z0b,h7]) (by simp[z0b]) hr hx
 obtain⟨r,h1,h2⟩:=key xs.length (x7 _)
 rw[Nat.sub_self,u9] at h1
 refine⟨r,h1,Reads.of rfl u0e rfl rfl rfl rfl (by simpa [cvL,AV.cv] using hC') fun D B clk T hB hS hlt hT=> ?_⟩
 simp only[go_sem,y1y,z6]
 refine h2 D _ B _ _ _ _ hS (by simp[z0b,z3p]) (by simp[z0b,z8c,z3p]) (by simp[z0b]) (by simp[z0b]) (fun ts' clk' q4=> ?_) (fun hr0 ts' clk'=> ?_)
 ·simp only[go_sem,q4]
  rw[z2c]
  exact hT _ hS.app
 ·simp only[go_sem,]
  rw[z2c,←hr0]
  exact hT _ hS.app
theorem k2j {α:Type} {enc:α→AV} {xs:List α} {S:List (Nat×AObj)} {c:Nat} {cap:List AV} {P:α→Bool} {t:Tip} (hE:∀ x,(enc x).cells.length=2) (hld:∀ x h,q1n h (some 2) (.iptr (enc x).cells 0)=some (enc x,h)) (hid:∀ x,(enc x).ids=[]) (hl:xs.length≤2 ^ 20) (hC:Cov S (z0i cap)) (hP:∀ x∈xs,Reads S c (enc x::cap) (.bool (P x))):
  Reads S 89 [.sl (xs.map enc) t, .fn c cap] (.bool (xs.any P)):=by
 obtain⟨r,h1,h2⟩:=k8d (t:= .no) hE hld hid hl hC hP
 have hC':Cov S (z0i [.sl (xs.map enc) .no, .fn c cap]):=by
  have:z0i [.sl (xs.map enc) .no, .fn c cap]=z0i cap:=by simp[z0i,AV.ids,z0d hid]
  rw[this];exact hC
 refine Reads.of rfl u6r rfl rfl rfl rfl (by simpa [cvL,AV.cv] using hC') fun D B clk T hB hS hlt hT=> ?_
 simp only[go_sem,u3s,z0u h2 hS.app,h1]
 rw[z0e]
 exact hT _ hS.app
theorem k8e {α:Type} {enc:α→AV} {xs:List α} {S:List (Nat×AObj)} {c:Nat} {cap:List AV} {P:α→Bool} {t:Tip} (hE:∀ x,(enc x).cells.length=3) (hld:∀ x h,q1n h (some 3) (.iptr (enc x).cells 0)=some (enc x,h)) (hid:∀ x,(enc x).ids=[]) (hl:xs.length≤2 ^ 20) (hC:Cov S (z0i cap)) (hP:∀ x∈xs,Reads S c (enc x::cap) (.bool (P x))):
  ∃ r:Int,decide (0≤r)=xs.any P∧Reads S 196 [.sl (xs.map enc) t, .fn c cap] (.int .i64 r):=by
 have hC':Cov S (z0i [.sl (xs.map enc) .no, .fn c cap]):=by
  have:z0i [.sl (xs.map enc) .no, .fn c cap]=z0i cap:=by simp[z0i,AV.ids,z0d hid]
  rw[this];exact hC
 have key:∀ n,n≤xs.length→∃ r:Int,decide (0≤r)=(xs.drop (xs.length - n)).any P∧∀ (D L:List AObj) (B clk:Nat) (ks:List Kf) (ts:Tmps) (Q:Post),Has S D→ts 0= .sl (xs.map enc) .no→ts 1= .fn c cap→ts 7= .int .i64 (xs.length:Int)→ts 8= .int .i64 ((xs.length - n:Nat):Int)→
   (∀ ts' clk',ts' 4= .int .i64 r→K Gam B .ret ks ⟨ts',D++L,clk'⟩ Q)→(r= -1→∀ ts' clk',K Gam B (.exit 0) ks ⟨ts',D++L,clk'⟩ Q)→K Gam B (.loop x3e) ks ⟨ts,D++L,clk⟩ Q:=by
  intro n
  induction n with
  | zero=>
    intro _
    refine⟨-1,by simp,fun D L B clk ks ts Q hS h0 h1 h7 h8 _ hx=> ?_⟩
    have e1:decide (((xs.length - 0:Nat):Int) < (xs.length:Int))=false:=by rw[n9];omega
    refine z3t ?_
    simp only[go_sem,h0,h1,h7,h8,x3e,e1]
    exact hx rfl _ _
  | succ n ih=>
    intro hn
    have hk:xs.length - (n + 1) < xs.length:=by omega
    have hdr:xs.drop (xs.length - (n + 1))=xs[xs.length - (n + 1)]::xs.drop (xs.length - n):=by
     rw[b6 hk]
     congr 2
     omega
    have e1:decide (((xs.length - (n + 1):Nat):Int) < (xs.length:Int))=true:=by rw[r8];omega
    have hpx:=hP _ (x8 hk)
    generalize hxx:xs[xs.length - (n + 1)]=x at hdr hpx
    have hidx:∀ h,z1v h 3 (.sl (xs.map enc) .no) (.int .i64 ((xs.length - (n + 1):Nat):Int))=some (.iptr (enc x).cells 0,h):=fun h=>by
     rw[←hxx]
     exact z4i (by simp[hk]) (hE _)
    have hcx:∀ h,q1n h (some 3) (.iptr (enc x).cells 0)=some (enc x,h):=hld x
    cases hpb:P x with
    | true=>
      refine⟨((xs.length - (n + 1):Nat):Int), ?_,fun D L B clk ks ts Q hS h0 h1 h7 h8 hr _=> ?_⟩
      ·rw[hdr,List.any_cons,hpb,Bool.true_or,r8];omega
      ·refine z3t ?_
       rw[hpb] at hpx
       simp only[go_sem,z0,z1,z2,z3,reduceCtorEq,↓reduceIte,h0,h1,h7,h8,x3e,e1,hidx,hcx,z0u hpx hS.app]
       exact hr _ _ (by simp[z0b])
    | false=>
      obtain⟨r,h1',h2'⟩:=ih (by omega)
      refine⟨r,by rw[h1',hdr,List.any_cons,hpb,Bool.false_or],fun D L B clk ks ts Q hS h0 h1 h7 h8 hr hx=> ?_⟩
      have e2:IntKind.i64.wrap (((xs.length - (n + 1):Nat):Int) + 1)=((xs.length - n:Nat):Int):=by rw[z0c (by omega) (by omega)];omega
      refine z3t ?_
      rw[hpb] at hpx
      simp only[go_sem,z0,z1,z2,z3,reduceCtorEq,↓reduceIte,h0,h1,h7,h8,x3e,e1,hidx,hcx,z0u hpx hS.app,e2]
      exact h2' D L B _ ks _ Q hS (by simp[z0b,h0]) (by simp[z0b,h1]) (by simp[z0b,h7]) (by simp[z0b]) hr hx
 obtain⟨r,h1,h2⟩:=key xs.length (x7 _)
 rw[Nat.sub_self,u9] at h1
 refine⟨r,h1,Reads.of rfl u0g rfl rfl rfl rfl (by simpa [cvL,AV.cv] using hC') fun D B clk T hB hS hlt hT=> ?_⟩
 simp only[go_sem,y2c,z6]
 refine h2 D _ B _ _ _ _ hS (by simp[z0b,z3p]) (by simp[z0b,z8c,z3p]) (by simp[z0b]) (by simp[z0b]) (fun ts' clk' q4=> ?_) (fun hr0 ts' clk'=> ?_)
 ·simp only[go_sem,q4]
  rw[z2c]
  exact hT _ hS.app
 ·simp only[go_sem,]
  rw[z2c,←hr0]
  exact hT _ hS.app
theorem k8f {α:Type} {enc:α→AV} {xs:List α} {S:List (Nat×AObj)} {c:Nat} {cap:List AV} {P:α→Bool} {t:Tip} (hE:∀ x,(enc x).cells.length=3) (hld:∀ x h,q1n h (some 3) (.iptr (enc x).cells 0)=some (enc x,h)) (hid:∀ x,(enc x).ids=[]) (hl:xs.length≤2 ^ 20) (hC:Cov S (z0i cap)) (hP:∀ x∈xs,Reads S c (enc x::cap) (.bool (P x))):
  Reads S 123 [.sl (xs.map enc) t, .fn c cap] (.bool (xs.any P)):=by
 obtain⟨r,h1,h2⟩:=k8e (t:= .no) hE hld hid hl hC hP
 have hC':Cov S (z0i [.sl (xs.map enc) .no, .fn c cap]):=by
  have:z0i [.sl (xs.map enc) .no, .fn c cap]=z0i cap:=by simp[z0i,AV.ids,z0d hid]
  rw[this];exact hC
 refine Reads.of rfl u0f rfl rfl rfl rfl (by simpa [cvL,AV.cv] using hC') fun D B clk T hB hS hlt hT=> ?_
 simp only[go_sem,y2b,z0u h2 hS.app,h1]
 rw[z0e]
 exact hT _ hS.app
theorem k8g {α:Type} {enc:α→AV} {xs:List α} {S:List (Nat×AObj)} {c:Nat} {cap:List AV} {P:α→Bool} {t:Tip} (hE:∀ x,(enc x).cells.length=2) (hld:∀ x h,q1n h (some 2) (.iptr (enc x).cells 0)=some (enc x,h)) (hid:∀ x,(enc x).ids=[]) (hl:xs.length≤2 ^ 20) (hC:Cov S (z0i cap)) (hP:∀ x∈xs,Reads S c (enc x::cap) (.bool (P x))):
  ∃ r:Int,decide (0≤r)=xs.any P∧Reads S 227 [.sl (xs.map enc) t, .fn c cap] (.int .i64 r):=by
 have hC':Cov S (z0i [.sl (xs.map enc) .no, .fn c cap]):=by
  have:z0i [.sl (xs.map enc) .no, .fn c cap]=z0i cap:=by simp[z0i,AV.ids,z0d hid]
  rw[this];exact hC
 have key:∀ n,n≤xs.length→∃ r:Int,decide (0≤r)=(xs.drop (xs.length - n)).any P∧∀ (D L:List AObj) (B clk:Nat) (ks:List Kf) (ts:Tmps) (Q:Post),Has S D→ts 0= .sl (xs.map enc) .no→ts 1= .fn c cap→ts 7= .int .i64 (xs.length:Int)→ts 8= .int .i64 ((xs.length - n:Nat):Int)→
   (∀ ts' clk',ts' 4= .int .i64 r→K Gam B .ret ks ⟨ts',D++L,clk'⟩ Q)→(r= -1→∀ ts' clk',K Gam B (.exit 0) ks ⟨ts',D++L,clk'⟩ Q)→K Gam B (.loop x3f) ks ⟨ts,D++L,clk⟩ Q:=by
  intro n
  induction n with
  | zero=>
    intro _
    refine⟨-1,by simp,fun D L B clk ks ts Q hS h0 h1 h7 h8 _ hx=> ?_⟩
    have e1:decide (((xs.length - 0:Nat):Int) < (xs.length:Int))=false:=by rw[n9];omega
    refine z3t ?_
    simp only[go_sem,h0,h1,h7,h8,x3f,e1]
    exact hx rfl _ _
  | succ n ih=>
    intro hn
    have hk:xs.length - (n + 1) < xs.length:=by omega
    have hdr:xs.drop (xs.length - (n + 1))=xs[xs.length - (n + 1)]::xs.drop (xs.length - n):=by
     rw[b6 hk]
     congr 2
     omega
    have e1:decide (((xs.length - (n + 1):Nat):Int) < (xs.length:Int))=true:=by rw[r8];omega
    have hpx:=hP _ (x8 hk)
    generalize hxx:xs[xs.length - (n + 1)]=x at hdr hpx
    have hidx:∀ h,z1v h 2 (.sl (xs.map enc) .no) (.int .i64 ((xs.length - (n + 1):Nat):Int))=some (.iptr (enc x).cells 0,h):=fun h=>by
     rw[←hxx]
     exact z4i (by simp[hk]) (hE _)
    have hcx:∀ h,q1n h (some 2) (.iptr (enc x).cells 0)=some (enc x,h):=hld x
    cases hpb:P x with
    | true=>
      refine⟨((xs.length - (n + 1):Nat):Int), ?_,fun D L B clk ks ts Q hS h0 h1 h7 h8 hr _=> ?_⟩
      ·rw[hdr,List.any_cons,hpb,Bool.true_or,r8];omega
      ·refine z3t ?_
       rw[hpb] at hpx
       simp only[go_sem,z0,z1,z2,z3,reduceCtorEq,↓reduceIte,h0,h1,h7,h8,x3f,e1,hidx,hcx,z0u hpx hS.app]
       exact hr _ _ (by simp[z0b])
    | false=>
      obtain⟨r,h1',h2'⟩:=ih (by omega)
      refine⟨r,by rw[h1',hdr,List.any_cons,hpb,Bool.false_or],fun D L B clk ks ts Q hS h0 h1 h7 h8 hr hx=> ?_⟩
      have e2:IntKind.i64.wrap (((xs.length - (n + 1):Nat):Int) + 1)=((xs.length - n:Nat):Int):=by rw[z0c (by omega) (by omega)];omega
      refine z3t ?_
      rw[hpb] at hpx
      simp only[go_sem,z0,z1,z2,z3,reduceCtorEq,↓reduceIte,h0,h1,h7,h8,x3f,e1,hidx,hcx,z0u hpx hS.app,e2]
      exact h2' D L B _ ks _ Q hS (by simp[z0b,h0]) (by simp[z0b,h1]) (by simp[z0b,h7]) (by simp[z0b]) hr hx
 obtain⟨r,h1,h2⟩:=key xs.length (x7 _)
 rw[Nat.sub_self,u9] at h1
 refine⟨r,h1,Reads.of rfl u0p rfl rfl rfl rfl (by simpa [cvL,AV.cv] using hC') fun D B clk T hB hS hlt hT=> ?_⟩
 simp only[go_sem,y2l,z6]
 refine h2 D _ B _ _ _ _ hS (by simp[z0b,z3p]) (by simp[z0b,z8c,z3p]) (by simp[z0b]) (by simp[z0b]) (fun ts' clk' q4=> ?_) (fun hr0 ts' clk'=> ?_)
 ·simp only[go_sem,q4]
  rw[z2c]
  exact hT _ hS.app
 ·simp only[go_sem,]
  rw[z2c,←hr0]
  exact hT _ hS.app
theorem k8h {α:Type} {enc:α→AV} {xs:List α} {S:List (Nat×AObj)} {c:Nat} {cap:List AV} {P:α→Bool} {t:Tip} (hE:∀ x,(enc x).cells.length=2) (hld:∀ x h,q1n h (some 2) (.iptr (enc x).cells 0)=some (enc x,h)) (hid:∀ x,(enc x).ids=[]) (hl:xs.length≤2 ^ 20) (hC:Cov S (z0i cap)) (hP:∀ x∈xs,Reads S c (enc x::cap) (.bool (P x))):
  Reads S 159 [.sl (xs.map enc) t, .fn c cap] (.bool (xs.any P)):=by
 obtain⟨r,h1,h2⟩:=k8g (t:= .no) hE hld hid hl hC hP
 have hC':Cov S (z0i [.sl (xs.map enc) .no, .fn c cap]):=by
  have:z0i [.sl (xs.map enc) .no, .fn c cap]=z0i cap:=by simp[z0i,AV.ids,z0d hid]
  rw[this];exact hC
 refine Reads.of rfl u0o rfl rfl rfl rfl (by simpa [cvL,AV.cv] using hC') fun D B clk T hB hS hlt hT=> ?_
 simp only[go_sem,y2k,z0u h2 hS.app,h1]
 rw[z0e]
 exact hT _ hS.app
section
theorem x0h {D L:List AObj} {B k:Nat} {o:AObj} (hB:D.length=B) (hL:L[k]? =some o):Has [(B + k,o)] (D++L):=by
 refine Has.cons ?_ Has.nil
 rw[z2u hB]
 exact hL
theorem k8i {s g:Nat} {x y:Int}:Reads [(s, .blk g [.int .i64 y] false false 0)] 293 [.int .i64 x, .ptr s g 0 0] (.bool (!decide (x=y))):=by
 refine Reads.of rfl y9z rfl rfl rfl rfl (Cov.one rfl) fun D B clk T hB hS hlt hT=> ?_
 have hs:=hlt _ j7
 have hb:=z2m (g:=g) (hS _ j7)
 dsimp only at hs hb
 simp only[go_sem,y1q,z1y hB hs,hb]
 rw[z0e]
 exact hT _ hS.app
theorem q1y {ss:List Nat} {s:Nat} {t:Tip} (h:∀ x∈ss,x=s) (hl:ss.length≤2 ^ 20):Pure Gam 250 [.sl (ss.map nat) t,nat s] (.bool true):=by
 refine Pure.of rfl y9y rfl rfl rfl (az:=[.sl (ss.map nat) .no,nat s]) rfl (by simp[z0i,AV.ids,z0d (f:=nat) fun _=>z3f,z3f]) fun D B clk T hB hT=> ?_
 have hr:∀ g,Reads [(B + 0, .blk g [.int .i64 (s:Int)] false false 0)] 197 [.sl (ss.map nat) .no, .fn 293 [.ptr (B + 0) g 0 0]] (.bool (ss.any fun x=> !decide ((x:Int)=(s:Int)))):=fun g=>
  k8c (enc:=nat) (P:=fun x=> !decide ((x:Int)=(s:Int))) (fun _=>rfl) (fun _ _=>rfl) (fun _=>rfl) hl (Cov.one rfl) fun x _=>k8i
 have e:(ss.any fun x=> !decide ((x:Int)=(s:Int)))=false:=by
  rw[List.any_eq_false]
  intro x hx
  simp[h x hx]
 rw[e] at hr
 simp only[go_sem,y1p,nat,hB]
 rw[z0u (hr _) (x0h hB rfl)]
 simp only[go_sem,Bool.not_false]
 rw[z0e]
 exact hT _
theorem z2i {s:Int}:Pure Gam 249 [.bool true, .int .i64 s] (.int .i64 s):=by
 refine Pure.of rfl y9x rfl rfl rfl rfl rfl fun D B clk T hB hT=> ?_
 simp only[go_sem,y1o]
 rw[z2c]
 exact hT _
theorem j1j {s:Nat} (hs:s=2∨s=3):Pure Gam 251 [nat s] (.bool true):=by
 refine Pure.of rfl u0c rfl rfl rfl rfl rfl fun D B clk T hB hT=> ?_
 rcases hs with rfl | rfl
 ·simp only[go_sem,v9i,nat,z9,z7,decide_true,decide_false]
  rw[z0e]
  exact hT _
 ·simp only[go_sem,v9i,nat,z9,z7,decide_true,decide_false]
  rw[z0e]
  exact hT _
theorem w0d {s:Nat} (h1:1≤s) (h4:s≤4):Pure Gam 246 [nat s] (.bool true):=by
 refine Pure.of rfl y9u rfl rfl rfl rfl rfl fun D B clk T hB hT=> ?_
 have e1:decide ((1:Int)≤(s:Int))=true:=by rw[r8];omega
 have e2:decide ((s:Int)≤4)=true:=by rw[r8];omega
 simp only[go_sem,y1m,nat,e1,e2]
 rw[z0e]
 exact hT _
class UOk (U:List Var):Prop where
 name:∀ v∈U,q5u x6o [.str v.name]=some (.bool true)
 name2:∀ v∈U,q5u j2m [.str v.name]=some (.bool true)
 sort:∀ v∈U,1≤v.sort∧v.sort≤4
 inj:∀ v∈U,∀ w∈U,v.name=w.name→v=w
instance:UOk z1z where
 name v hv:=by
  simp only[z1z,j6,List.not_mem_nil,or_false] at hv
  rcases hv with rfl | rfl | rfl | rfl | rfl | rfl | rfl | rfl <;> rfl
 name2 v hv:=by
  simp only[z1z,j6,List.not_mem_nil,or_false] at hv
  rcases hv with rfl | rfl | rfl | rfl | rfl | rfl | rfl | rfl <;> rfl
 sort:=by decide
 inj:=by decide
variable {U:List Var} [UOk U]
theorem k2k {v:Var} (hv:v∈U):Pure Gam 183 [.str v.name] (.bool true):=Pure.tab (tab:=x6o) rfl rfl (UOk.name v hv)
theorem q5j {v:Var} (hv:v∈U):1≤v.sort∧v.sort≤4:=UOk.sort v hv
theorem q0b {h:List AObj} {K k:IntKind} {n:Int} {a:AV} {xs:List AV} {t:Tip}:z1v h 1 (.sl (a:: .int K n::xs) t) (.int k 1)=some (.iptr [.int K n] 0,h):=z4i (i:=1) (e:= .int K n) rfl rfl
theorem x0i {h:List AObj} {K k:IntKind} {n:Int} {a b:AV} {xs:List AV} {t:Tip}:z1v h 1 (.sl (a::b:: .int K n::xs) t) (.int k 2)=some (.iptr [.int K n] 0,h):=z4i (i:=2) (e:= .int K n) rfl rfl
theorem z2n {o k:Nat} (ho:o=1∨o=2∨o=6∨o=7∨o=8∨o=9∨o=10∨o=11∨o=12∨o=13∨o=14∨o=15∨o=18∨o=19∨o=20):Pure Gam 189 [eNode (bare o k)] (.bool true):=by
 refine Pure.of rfl k2c rfl rfl rfl rfl rfl fun D B clk T hB hT=> ?_
 have e1:decide ((o:Int)=3)=false:=by rw[n9];omega
 have e2:decide ((o:Int)=4)=false:=by rw[n9];omega
 have e3:decide ((o:Int)=5)=false:=by rw[n9];omega
 have e4:decide ((o:Int)=16)=false:=by rw[n9];omega
 have e5:decide ((o:Int)=17)=false:=by rw[n9];omega
 have e6:decide ((1:Int)≤(o:Int))=true:=by rw[r8];omega
 have e7:decide ((o:Int)≤20)=true:=by rw[r8];omega
 have e8:decide (((0:Nat):Int)=0)=true:=rfl
 simp only[go_sem,j1c,hB,eNode,bare,nat,e1,e2,e3,e4,e5,e6,e7,e8,decide_true]
 rw[z0e]
 exact hT _
theorem w0e {V:List Var} {n:Node} {ss:List Nat} {s:Nat} {ks:Term} (hn:NodeOk V n ss s ks) (hV:∀ v∈V,v∈U):Pure Gam 189 [eNode n] (.bool true):=by
 cases hn with
 | bool h=>exact z2n (by omega)
 | not=>exact z2n (by omega)
 | andor h=>exact z2n (by omega)
 | imp=>exact z2n (by omega)
 | ite h1 h2=>exact z2n (by omega)
 | eq h1 h2=>exact z2n (by omega)
 | cmp h hs=>exact z2n (by omega)
 | add h hs=>exact z2n (by omega)
 | mul hs hn=>exact z2n (by omega)
 | select=>exact z2n (by omega)
 | store=>exact z2n (by omega)
 | const=>exact z2n (by omega)
 | int h=>
   refine Pure.of rfl k2c rfl rfl rfl rfl rfl fun D B clk T hB hT=> ?_
   simp only[go_sem,j1c,hB,eNode,nat,z9,z7,decide_true,decide_false,z0a (j1g h)]
   rw[z0e]
   exact hT _
 | real h=>
   refine Pure.of rfl k2c rfl rfl rfl rfl rfl fun D B clk T hB hT=> ?_
   simp only[go_sem,j1c,hB,eNode,nat,z9,z7,decide_true,decide_false,z0a (x8x h)]
   rw[z0e]
   exact hT _
 | var h=>
   refine Pure.of rfl k2c rfl rfl rfl rfl rfl fun D B clk T hB hT=> ?_
   have hs:=q5j (hV _ h)
   have h1:=w0d hs.1 hs.2
   rw[nat] at h1
   simp only[go_sem,j1c,hB,eNode,nat,z9,z7,decide_true,decide_false,z0a h1,z0a (k2k (hV _ h))]
   rw[z0e]
   exact hT _
 | @div o k _ ho h1 h5=>
   refine Pure.of rfl k2c rfl rfl rfl rfl rfl fun D B clk T hB hT=> ?_
   have hp1:Pure Gam 247 [.str (dec k)] (.bool true):=by
    have:=k2d (z:=(k:Int)) (by rw[u5,z6p (by omega)];simp)
    rwa [z0f,if_neg (by omega),u5] at this
   have hp2:=w0a h1 h5
   have e1:decide ((o:Int)=3)=false:=by rw[n9];omega
   have e2:decide ((o:Int)=4)=false:=by rw[n9];omega
   have e3:decide ((o:Int)=5)=false:=by rw[n9];omega
   have e8:decide (((0:Nat):Int)=0)=true:=rfl
   rcases ho with rfl | rfl
   ·simp only[go_sem,j1c,hB,eNode,nat,z9,z7,u6,decide_true,decide_false,e8,z0a hp1,z0a hp2]
    rw[z0e]
    exact hT _
   ·simp only[go_sem,j1c,hB,eNode,nat,z9,z7,u6,decide_true,decide_false,e8,z0a hp1,z0a hp2]
    rw[z0e]
    exact hT _
end
theorem w0f {V:List Var} {n:Node} {ss:List Nat} {s:Nat} {ks:Term} (hn:NodeOk V n ss s ks):Pure Gam 190 [nat n.op,nat n.kids] (.bool true):=by
 refine Pure.of rfl y9s rfl rfl rfl rfl rfl fun D B clk T hB hT=> ?_
 have e0:decide (((0:Nat):Int)=0)=true:=rfl
 cases hn with
 | bool h=>
   rcases h with rfl | rfl
   all_goals
    simp only[go_sem,x1r,nat,bare,z9,z7,decide_true,decide_false]
    rw[z0e]
    exact hT _
 | int h=>
   simp only[go_sem,x1r,nat,z9,z7,decide_true,decide_false]
   rw[z0e]
   exact hT _
 | real h=>
   simp only[go_sem,x1r,nat,z9,z7,decide_true,decide_false]
   rw[z0e]
   exact hT _
 | var h=>
   simp only[go_sem,x1r,nat,z9,z7,decide_true,decide_false]
   rw[z0e]
   exact hT _
 | andor h=>
   rcases h with rfl | rfl
   all_goals
    simp only[go_sem,x1r,nat,bare,z9,z7,decide_true,decide_false]
    rw[z0e]
    exact hT _
 | cmp h hs=>
   rcases h with rfl | rfl
   all_goals
    simp only[go_sem,x1r,nat,bare,z9,z7,decide_true,decide_false]
    rw[z0e]
    exact hT _
 | @add k _ _ h hs=>
   have e1:decide ((1:Int)≤(k:Int))=true:=by rw[r8];omega
   simp only[go_sem,x1r,nat,bare,z9,z7,decide_true,decide_false,e1]
   rw[z0e]
   exact hT _
 | div h h1 h5=>
   rcases h with rfl | rfl
   all_goals
    simp only[go_sem,x1r,nat,z9,z7,decide_true,decide_false]
    rw[z0e]
    exact hT _
 | _=>
   simp only[go_sem,x1r,nat,bare,z9,z7,decide_true,decide_false]
   rw[z0e]
   exact hT _
theorem q2t {l:List Nat}:z0i (l.map nat)=[]:=z0d fun _=>rfl
theorem v3l {k s:Nat}:∀ x∈x3 k s,x=s:=fun _ hx=>(List.mem_replicate.1 hx).2
theorem k8j {k s:Nat} {h:List AObj} {t:Tip} (hk:1≤k):z1v h 1 (.sl ((x3 k s).map nat) t) (.int .i64 0)=some (.iptr [.int .i64 (s:Int)] 0,h):=by
 obtain⟨k,rfl⟩:∃ j,k=j + 1:=⟨k - 1,by omega⟩
 exact z4i (i:=0) (e:=nat s) rfl rfl
theorem w0g {V:List Var} {n:Node} {ss:List Nat} {s:Nat} {ks:Term} {t:Tip} (hn:NodeOk V n ss s ks) (hl:ss.length≤2 ^ 20):Pure Gam 191 [eNode n, .sl (ss.map nat) t] (.int .i64 (s:Int)):=by
 refine Pure.of rfl y9t rfl rfl rfl (az:=[eNode n, .sl (ss.map nat) .no]) (by simp[cvL,k1f,AV.cv]) (by simp[z0i,z2x,AV.ids,q2t]) fun D B clk T hB hT=> ?_
 cases hn with
 | bool h=>
   have hp:=q1y (ss:=[]) (s:=1) (t:= .no) (by simp) (by simp)
   rw[k8,nat,z9] at hp
   rcases h with rfl | rfl
   all_goals
    simp only[go_sem,q1v,hB,eNode,nat,bare,z9,z7,decide_true,decide_false,z0a hp,z0a z2i]
    rw[z2c]
    exact hT _
 | int h=>
   simp only[go_sem,q1v,hB,eNode,nat,z9,z7,decide_true,decide_false]
   rw[z2c]
   exact hT _
 | real h=>
   simp only[go_sem,q1v,hB,eNode,nat,z9,z7,decide_true,decide_false]
   rw[z2c]
   exact hT _
 | var h=>
   simp only[go_sem,q1v,hB,eNode,nat,z9,z7,decide_true,decide_false]
   rw[z2c]
   exact hT _
 | not=>
   have hp:=q1y (ss:=[1]) (s:=1) (t:= .no) (by simp) (by simp)
   rw[j4,k8,nat,z9] at hp
   simp only[go_sem,q1v,hB,eNode,nat,bare,z9,z7,decide_true,decide_false,z0a hp,z0a z2i]
   rw[z2c]
   exact hT _
 | @andor o k _ h=>
   have hp:=q1y (ss:=x3 k 1) (s:=1) (t:= .no) v3l hl
   rw[show nat 1= .int .i64 1 from rfl] at hp
   rcases h with rfl | rfl
   all_goals
    simp only[go_sem,z0,z1,z2,z3,reduceCtorEq,↓reduceIte,q1v,hB,eNode,nat,bare,z9,z7,decide_true,decide_false,z0a hp,z0a z2i]
    rw[z2c]
    exact hT _
 | imp=>
   have hp:=q1y (ss:=[1,1]) (s:=1) (t:= .no) (by simp) (by simp)
   rw[j4,j4,k8,nat,z9] at hp
   simp only[go_sem,q1v,hB,eNode,nat,bare,z9,z7,decide_true,decide_false,z0a hp,z0a z2i]
   rw[z2c]
   exact hT _
 | @ite s _ h1 h2=>
   have e1:decide ((s:Int)=(s:Int))=true:=by simp
   simp only[go_sem,q1v,hB,eNode,nat,bare,z9,z7,decide_true,decide_false,z2h,q0b,x0i,z0a z2i]
   rw[z2c]
   exact hT _
 | @eq s _ h1 h2=>
   simp only[go_sem,q1v,hB,eNode,nat,bare,z9,z7,decide_true,decide_false,z2h,q0b,z0a z2i]
   rw[z2c]
   exact hT _
 | @cmp o s _ h hs=>
   have hp:=q1y (ss:=[s,s]) (s:=s) (t:= .no) (by simp) (by simp)
   have hp2:=j1j hs
   rw[j4,j4,k8,nat] at hp
   rw[nat] at hp2
   rcases h with rfl | rfl
   all_goals
    simp only[go_sem,q1v,hB,eNode,nat,bare,z9,z7,decide_true,decide_false,z2h,z0a hp,z0a hp2,z0a z2i]
    rw[z2c]
    exact hT _
 | @add k s _ h hs=>
   have hp:=q1y (ss:=x3 k s) (s:=s) (t:= .no) v3l hl
   have hp2:=j1j hs
   have e1:∀ h',z1v h' 1 (.sl ((x3 k s).map nat) .no) (.int .i64 0)=some (.iptr [.int .i64 (s:Int)] 0,h'):=fun h'=>k8j h
   rw[show nat s= .int .i64 (s:Int) from rfl] at hp hp2
   have hX:z0i ((x3 k s).map nat)=[]:=q2t
   generalize (x3 k s).map nat=X at hp e1 hX
   simp only[go_sem,q1v,hB,z1p,eNode,nat,bare,z9,z7,decide_true,decide_false,e1,z0a hp,z0a hp2,z0a z2i]
   refine⟨by simp[z1r,apart,z0q,z1n,z1t,AOp.isCall,hB,AV.ids,hX], ?_⟩
   rw[z2c]
   exact hT _
 | @mul s m _ hs hm=>
   have hp:=q1y (ss:=[s,s]) (s:=s) (t:= .no) (by simp) (by simp)
   have hp2:=j1j hs
   rw[j4,j4,k8,nat] at hp
   rw[nat] at hp2
   simp only[go_sem,q1v,hB,z1p,eNode,nat,bare,z9,z7,decide_true,decide_false,z2h,z0a hp,z0a hp2,z0a z2i]
   refine⟨by simp[z1r,apart,z0q,z1n,z1t,AOp.isCall,hB,AV.ids,z0i], ?_⟩
   rw[z2c]
   exact hT _
 | div h h1 h5=>
   rcases h with rfl | rfl
   all_goals
    simp only[go_sem,q1v,hB,eNode,nat,z9,z7,decide_true,decide_false,z2h,z0a z2i]
    rw[z2c]
    exact hT _
 | select=>
   simp only[go_sem,q1v,hB,eNode,nat,bare,z9,z7,decide_true,decide_false,z2h,q0b,z0a z2i]
   rw[z2c]
   exact hT _
 | store=>
   obtain⟨u,hu⟩:∃ u,∀ h:List AObj,slV h (some 1) (.sl [.int .i64 4, .int .i64 2, .int .i64 2] .no) (some (.int .i64 1)) none none=some (.sl [.int .i64 2, .int .i64 2] u,h):=⟨.no,fun h=>by simp[slV,z2v,z4w,z5m,AV.cells]⟩
   have hp:=q1y (ss:=[2,2]) (s:=2) (t:=u) (by simp) (by simp)
   rw[j4,j4,k8,nat,z9] at hp
   simp only[go_sem,q1v,hB,eNode,nat,bare,z9,z7,decide_true,decide_false,z2h,hu,z0a hp,z0a z2i]
   rw[z2c]
   exact hT _
 | const=>
   simp only[go_sem,q1v,hB,eNode,nat,bare,z9,z7,decide_true,decide_false,z2h,z0a z2i]
   rw[z2c]
   exact hT _
section
variable {U:List Var} [UOk U]
structure Tr where
 s:Nat
 len:Nat
 dep:Nat
def z8x (F:List Tr):Nat:=(F.map (·.len)).sum
theorem y4m:z8x []=0:=rfl
theorem q5k {f:Tr} {F:List Tr}:z8x (f::F)=f.len + z8x F:=by simp[z8x]
theorem x0j {F G:List Tr}:z8x (F++G)=z8x F + z8x G:=by simp[z8x]
theorem k2l {F:List Tr} {j:Nat} (hj:j < F.length):z8x (F.take (j + 1))=z8x (F.take j) + F[j].len:=by
 rw[w7 hj,x0j]
 simp[z8x]
def z4d (i:Nat):List Tr→List Nat
 | []=>[]
 | f::F=>i::z4d (i + f.len) F
theorem q0c {i:Nat} {F:List Tr}:(z4d i F).length=F.length:=by
 induction F generalizing i with
 | nil=>rfl
 | cons f F ih=>simp[z4d,ih]
theorem q5l {i:Nat} {F G:List Tr}:z4d i (F++G)=z4d i F++z4d (i + z8x F) G:=by
 induction F generalizing i with
 | nil=>rfl
 | cons f F ih=>simp only[y6,z4d,ih,q5k,d3]
theorem j7t {i j:Nat} {F:List Tr} (hj:j < F.length):(z4d i F)[j]? =some (i + z8x (F.take j)):=by
 induction F generalizing i j with
 | nil=>simp at hj
 | cons f F ih=>
   cases j with
   | zero=>simp[z4d,z8x]
   | succ j=>
     simp only[z4d,l9,List.take_succ_cons,q5k]
     rw[ih (by simpa using hj),d3]
structure Pt where
 sort:Nat
 depth:Nat
 fin:Nat
def ePt (p:Pt):AV:= .agg [.int .i64 (p.sort:Int), .int .i64 (p.depth:Int), .int .i64 (p.fin:Int)]
def PartsOk (P:List Pt) (i:Nat) (F:List Tr):Prop:=∀ j f,F[j]? =some f→P[i + z8x (F.take j)]? =some ⟨f.s,f.dep,i + z8x (F.take j) + f.len⟩
theorem PartsOk.nil {P:List Pt} {i:Nat}:PartsOk P i []:=fun j f h=>by simp at h
theorem PartsOk.node {P:List Pt} {i:Nat} {K G:List Tr} {s dep:Nat} (h:PartsOk P (i + 1) (K++G)) (hi:i < P.length):PartsOk (P.set i ⟨s,dep,i + (1 + z8x K)⟩) i (⟨s,1 + z8x K,dep⟩::G):=by
 intro j f hj
 cases j with
 | zero=>
   simp at hj
   subst hj
   simp[z8x,hi]
 | succ j=>
   simp only[l9] at hj
   have:=h (K.length + j) f (by rw[b0 (by omega)];simpa using hj)
   rw[List.take_append,List.take_of_length_le (by omega),x0j,show K.length + j - K.length=j by omega] at this
   simp only[List.take_succ_cons,q5k]
   rw[List.getElem?_set_ne (by omega)]
   rw[show i + (1 + z8x K + z8x (G.take j))=i + 1 + (z8x K + z8x (G.take j)) by omega]
   exact this
theorem NodeOk.pos {V:List Var} {n:Node} {ss:List Nat} {s:Nat} {ks:Term} (hn:NodeOk V n ss s ks) (hV:∀ v∈V,v∈U):1≤s∧s≤4:=by
 cases hn with
 | var h=>exact q5j (hV _ h)
 | cmp h hs=>omega
 | add h hs=>omega
 | mul hs hn=>omega
 | ite h1 h2=>omega
 | eq h1 h2=>omega
 | _=>omega
theorem NodeOk.mul_num {V:List Var} {n:Node} {ss:List Nat} {s:Nat} {ks:Term} (hn:NodeOk V n ss s ks) (h:n.op=15):∃ m r,ks=m::r∧m.op=3:=by
 cases hn with
 | mul hs hm=>exact⟨_,_,rfl,hm⟩
 | bool h'=>exact absurd h (by simp[bare];omega)
 | andor h'=>exact absurd h (by simp[bare];omega)
 | cmp h' _=>exact absurd h (by simp[bare];omega)
 | div h' _ _=>exact absurd h (by simp;omega)
 | _=>simp[bare] at h
def k2m (B i:Nat) (F:List Tr) (r:AV) (o:AObj):Prop:=(F=[]∧r= .sl [] .nil)∨(F≠[]∧∃ g,r= .ob (B + 9) g 0 F.length∧o= .blk g ((z4d i F).reverse.map nat) true true 0)
def z7k (D:List AObj) (B:Nat) (t:Term) (gP gV g2:Nat) (P:List Pt) (o3 o4 o5 o6 o7 o8 o9:AObj):List AObj:=
 D++[.blk gP (P.map ePt) true false 0, .blk gV [.agg [z0w t, .ob (B + 0) gP 0 t.length]] false false 0, .blk g2 [.ptr (B + 1) gV 0 0] false false 0,o3,o4,o5,o6,o7,o8,o9]
def j4o (D:List AObj) (B:Nat) (t:Term) (gP gV g2:Nat) (i:Nat) (F:List Tr) (q:St):Prop:=
 ∃ P o3 o4 o5 o6 o7 o8 o9,P.length=t.length∧PartsOk P i F∧q.ts 0=z0w t∧q.ts 4= .ptr (B + 2) g2 0 0∧q.ts 6= .int .i64 ((i:Int) - 1)∧k2m B i F (q.ts 5) o9∧q.h=z7k D B t gP gV g2 P o3 o4 o5 o6 o7 o8 o9
theorem j1k {D:List AObj} {B:Nat} {t:Term} {gP gV g2 i:Nat} {K G:List Tr} {r:AV} {o:AObj} (hB:D.length=B) (hr:k2m B (i + 1) (K++G) r o) (hl:(K++G).length≤2 ^ 20):
  (∀ h,v1e h .sl r=some (.int .i64 ((K++G).length:Int),h))∧
  ∃ kv rv:AV,(∀ P o3 o4 o5 o6 o7 o8,slV (z7k D B t gP gV g2 P o3 o4 o5 o6 o7 o8 o) (some 1) r (some (.int .i64 (G.length:Int))) none none=some (kv,z7k D B t gP gV g2 P o3 o4 o5 o6 o7 o8 o))∧
    (∀ P o3 o4 o5 o6 o7 o8,slV (z7k D B t gP gV g2 P o3 o4 o5 o6 o7 o8 o) (some 1) r none (some (.int .i64 (G.length:Int))) none=some (rv,z7k D B t gP gV g2 P o3 o4 o5 o6 o7 o8 o))∧
    z6v kv=some K.length∧
    (∀ j P o3 o4 o5 o6 o7 o8,j < K.length→q6s (z7k D B t gP gV g2 P o3 o4 o5 o6 o7 o8 o) kv (K.length - 1 - j)=some (nat (i + 1 + z8x (K.take j))))∧
    (∀ (f:Tr) P o3 o4 o5 o6 o7 g8 gen,f.len=1 + z8x K→z1a (z7k D B t gP gV g2 P o3 o4 o5 o6 o7 (.blk g8 [nat i] true false 0) o) (B + 9) gen 1 8 true rv (.ob (B + 8) g8 0 1)=some (.ob (B + 9) gen 0 (G.length + 1),z7k D B t gP gV g2 P o3 o4 o5 o6 o7 (.blk g8 [nat i] true false 0) (.blk gen ((z4d i (f::G)).reverse.map nat) true true 0))):=by
 have hsrc:∀ P o3 o4 o5 o6 o7 g8,z6k (z7k D B t gP gV g2 P o3 o4 o5 o6 o7 (.blk g8 [nat i] true false 0) o) (.ob (B + 8) g8 0 1)=some [nat i]:=fun P o3 o4 o5 o6 o7 g8=>
  q6f (k:=8) (es:=[nat i]) (w:=false) hB rfl rfl
 rcases hr with ⟨hF,rfl⟩ | ⟨hF,g,rfl,rfl⟩
 ·have hK:K=[]:=(n7.1 hF).1
  have hG:G=[]:=(n7.1 hF).2
  subst hK;subst hG
  refine⟨fun h=>rfl, .sl [] .nil, .sl [] .nil,fun _ _ _ _ _ _ _=>rfl,fun _ _ _ _ _ _ _=>rfl,rfl,fun j _ _ _ _ _ _ _ hj=>by simp at hj,fun f P o3 o4 o5 o6 o7 g8 gen hf=> ?_⟩
  unfold z1a
  rw[hsrc]
  simp[z0r,nat,AV.def?,AV.cells,AV.one,z1e,z7k,z2o hB,z4d]
 ·have hN:(K++G).length=K.length + G.length:=k7
  have hgr:(z7k D B t gP gV g2 [] .dead .dead .dead .dead .dead .dead (.blk g ((z4d (i + 1) (K++G)).reverse.map nat) true true 0)).length=B + 10:=by simp[z7k,hB]
  have hblk:∀ P o3 o4 o5 o6 o7 o8,z2f (z7k D B t gP gV g2 P o3 o4 o5 o6 o7 o8 (.blk g ((z4d (i + 1) (K++G)).reverse.map nat) true true 0)) (B + 9) g=some ((z4d (i + 1) (K++G)).reverse.map nat,true,true,0):=fun P o3 o4 o5 o6 o7 o8=>by
   unfold z7k
   rw[z3n hB]
   simp[z2f]
  have hlen:((z4d (i + 1) (K++G)).reverse.map nat).length=(K++G).length:=by simp[q0c]
  have hhead:z5m 1 ((z4d (i + 1) (K++G)).reverse.map nat)=true:=by
   cases (z4d (i + 1) (K++G)).reverse <;> rfl
  have hall:z0r 1 ((z4d (i + 1) (K++G)).reverse.map nat)=true:=z8d
  refine⟨fun h=>rfl, .ob (B + 9) g G.length K.length, .ob (B + 9) g 0 G.length,fun P o3 o4 o5 o6 o7 o8=> ?_,fun P o3 o4 o5 o6 o7 o8=> ?_, ?_,fun j P o3 o4 o5 o6 o7 o8 hj=> ?_,fun f P o3 o4 o5 o6 o7 g8 gen hf=> ?_⟩
  ·simp only[slV,z2v,hblk,z4w,Int.natCast_nonneg,if_true,m7]
   rw[if_pos ⟨by omega,hhead,by omega,by omega⟩,j5]
   rw[k6,show (K++G).length - G.length=K.length by omega]
  ·simp only[slV,z2v,hblk,z4w,Int.natCast_nonneg,if_true,m7]
   rw[if_pos ⟨by omega,hhead,by omega,by omega⟩,j5]
   rfl
  ·simp only[z6v]
   rw[if_pos (by omega)]
  ·unfold q6s
   simp only[z6k,q3h,hblk]
   rw[if_pos (by omega)]
   have h1:(((List.map nat (z4d (i + 1) (K++G)).reverse).drop G.length).take K.length)[K.length - 1 - j]? =some (nat (i + 1 + z8x (K.take j))):=by
    rw[List.getElem?_take_of_lt (by omega),List.getElem?_drop,m8,List.getElem?_reverse (by rw[q0c];omega),q0c,show (K++G).length - 1 - (G.length + (K.length - 1 - j))=j by omega,q5l,g9 (by rw[q0c];omega),j7t hj]
    rfl
   simp only[h1]
   rfl
  ·have hGK:(List.map nat (z4d (i + 1) (K++G)).reverse).take G.length=(z4d (i + 1 + z8x K) G).reverse.map nat:=by
    rw[←List.map_take,q5l,List.reverse_append,List.take_left' (by simp[q0c])]
   have hnew:(z4d i (f::G)).reverse.map nat=(z4d (i + 1 + z8x K) G).reverse.map nat++[nat i]:=by
    rw[z4d,hf,List.reverse_cons,v8,show i + (1 + z8x K)=i + 1 + z8x K by omega]
    rfl
   unfold z1a
   rw[hsrc]
   have hpos:0 < (K++G).length:=List.length_pos_iff.2 hF
   have hgt:¬ (G.length + 1) * (8 + 1) > z1e:=by unfold z1e;omega
   have ha1:z0r 1 [nat i]=true:=rfl
   simp only[ha1,hblk,hall,v6,decide_eq_true_eq,hgt,z8,j9,if_false,beq_self_eq_true,decide_false,Bool.or_self,List.isEmpty_cons,if_true,Nat.zero_le,hlen,true_and]
   rw[if_pos ⟨by omega,hpos⟩,hGK,←hnew]
   congr 2
   simp only[z7k,z2o hB,List.set_cons_succ,List.set_cons_zero]
end
section
variable {U:List Var} [UOk U]
section
variable {h:List AObj} {base g k:Nat} {ts:Tmps} {z:AV} {dst:Option Nat} {os:List AOper} {clk:Nat} {ks:List Kf} {Q:Post}
def bwV (h:List AObj) (f:Nat) (v:AV):Option (AV×List AObj):=if (z6v v).isSome then some (.bwd f v,h) else none
theorem y2n {f n:Nat} {v:AV} (hr:z6v v=some n):bwV h f v=some (.bwd f v,h):=by simp[bwV,hr]
theorem j7u {f:Nat} {x:AOpd}:O Gam base .plain g (⟨dst, .backward f x,none⟩::os) ⟨ts,h,clk⟩ ks Q=PP Gam base (bwV h f (x.ev ts)) dst g os ts clk ks Q:=by
 rw[q3u rfl];rfl
def u4b (h:List AObj) (s g:Nat) (z:AV) (v:AV):Option (AV×List AObj):=
 if !z.def? then none else match z8f h [v] with
  | some vs=>(z4f z.cells.length [z] [0] vs).map fun es=>(.ob s g 0 1,(freezeAll h (z4u [v])).set s (.blk g es true false 0))
  | none=>none
theorem k8k {s:Nat} {K J:IntKind} {a b:Int}:u4b h s g (.int K a) (.int J b)=some (.ob s g 0 1,h.set s (.blk g [.int J b] true false 0)):=(rfl)
theorem u0s {x:AOpd}:O Gam base .plain g (⟨dst, .buildSlice k true z 1 [(0,x)],none⟩::os) ⟨ts,h,clk⟩ ks Q=PP Gam base (u4b h (base + k) g z (x.ev ts)) dst g os ts clk ks Q:=by
 rw[q3u rfl]
 congr 1
end
attribute [go_sem] j7u u0s k8k
theorem q7u {D:List AObj} {B gP n i:Nat} {P:List Pt} {L:List AObj} {p:Pt} (hB:D.length=B) (hi:P[i]? =some p) (hn:P.length=n):z1v (D++ .blk gP (P.map ePt) true false 0::L) 3 (.ob (B + 0) gP 0 n) (.int .i64 (i:Int))=some (.ptr (B + 0) gP i 0,D++ .blk gP (P.map ePt) true false 0::L):=by
 have hb:z2f (D++ .blk gP (P.map ePt) true false 0::L) (B + 0) gP=some (P.map ePt,true,false,0):=by rw[z3n hB];simp[z2f]
 have hlt:i < n:=by
  rw[x9] at hi
  have:=hi.1
  omega
 have h1:(P.map ePt)[0 + i]? =some (ePt p):=by rw[k6,m8,hi];rfl
 simp only[z1v,Int.natCast_nonneg,if_true,hb,m7,h1]
 rw[if_pos ⟨hlt,rfl⟩,k6]
theorem x5l {P:List Pt} {i:Nat} {p:Pt} (hi:P[i]? =some p):(P.map ePt)[i]? =some (.agg [.int .i64 (p.sort:Int), .int .i64 (p.depth:Int), .int .i64 (p.fin:Int)]):=by rw[m8,hi];rfl
theorem z2s {t:Term} {i:Nat} {n:Node} {h:List AObj} {u:Tip} {k:IntKind} (hi:t[i]? =some n):z1v h 5 (.sl (t.map eNode) u) (.int k (i:Int))=some (.iptr [.int .i64 (n.op:Int), .int .i64 (n.sort:Int), .str n.name, .str n.num, .int .i64 (n.kids:Int)] 0,h):=by
 have hlt:i < t.length:=by
  rw[x9] at hi
  exact hi.1
 have h1:t[i]=n:=by
  rw[x9] at hi
  exact hi.2
 rw[z3v (f:=eNode) hlt (cs:=[.int .i64 (n.op:Int), .int .i64 (n.sort:Int), .str n.name, .str n.num, .int .i64 (n.kids:Int)]) (esz:=5) (by rw[h1];rfl) rfl]
def y2o:ACode:=(.region 1 [⟨(some 12), .move (.tmp 66),none⟩] [])
def y2p:ACode:=(.block 3 (.seq (.region 12 [⟨(some 67), .load none (.tmp 10),none⟩,⟨(some 68), .load none (.tmp 4),none⟩,⟨(some 69), .nilCheck (.tmp 68),none⟩,⟨(some 70), .fieldAddr (.tmp 69) 1,none⟩,⟨(some 71), .load none (.tmp 70),none⟩,⟨(some 72), .move (.tmp 12),none⟩,⟨(some 73), .indexAddr none 3 (.tmp 71) (.tmp 72),none⟩,⟨(some 74), .fieldAddr (.tmp 73) 0,none⟩,⟨(some 75), .load none (.tmp 74),none⟩,⟨(some 76), .buildSlice 6 false (.int .i64 0) 1 [(0,(.tmp 75))],none⟩,⟨(some 77), .append 7 1 8 false (.tmp 67) (.tmp 76),none⟩,⟨none, .store 1 (.tmp 10) (.tmp 77),none⟩] [(0,9)]) (.seq (.region 14 [⟨(some 78), .fieldAddr (.tmp 9) 1,none⟩,⟨(some 79), .load none (.tmp 78),none⟩,⟨(some 80), .load none (.tmp 4),none⟩,⟨(some 81), .nilCheck (.tmp 80),none⟩,⟨(some 82), .fieldAddr (.tmp 81) 1,none⟩,⟨(some 83), .load none (.tmp 82),none⟩,⟨(some 84), .move (.tmp 12),none⟩,⟨(some 85), .indexAddr none 3 (.tmp 83) (.tmp 84),none⟩,⟨(some 86), .fieldAddr (.tmp 85) 1,none⟩,⟨(some 87), .load none (.tmp 86),none⟩,⟨(some 88), .binOp .add (.one .int) (.tmp 87) (.const (.int .i64 1)),none⟩,⟨(some 89), .minmax true (.tmp 79) (.tmp 88),none⟩,⟨(some 90), .fieldAddr (.tmp 9) 1,none⟩,⟨none, .store 1 (.tmp 90) (.tmp 89),none⟩] []) (.region 10 [⟨(some 91), .load none (.tmp 4),none⟩,⟨(some 92), .nilCheck (.tmp 91),none⟩,⟨(some 93), .fieldAddr (.tmp 92) 1,none⟩,⟨(some 94), .load none (.tmp 93),none⟩,⟨(some 95), .move (.tmp 12),none⟩,⟨(some 96), .indexAddr none 3 (.tmp 94) (.tmp 95),none⟩,⟨(some 97), .fieldAddr (.tmp 96) 2,none⟩,⟨(some 98), .load none (.tmp 97),none⟩,⟨(some 99), .fieldAddr (.tmp 9) 2,none⟩,⟨none, .store 1 (.tmp 99) (.tmp 98),none⟩] []))))
theorem j7v {Kk:List Tr} {j:Nat} (hj:j < Kk.length):((Kk.take (j + 1)).map (·.s)).map nat=((Kk.take j).map (·.s)).map nat++[.int .i64 (Kk[j].s:Int)]:=by
 rw[w7 hj,v8,v8]
 rfl
theorem k2n {D:List AObj} {B:Nat} {t:Term} {gP gV g2 g3 g4 g5 i d clk:Nat} {N:AV} {P:List Pt} {Kk G:List Tr} {kv:AV} {o6 o7 o8 o9:AObj} {ts:Tmps} {ks:List Kf} {Q:Post} (hB:D.length=B) (hPl:P.length=t.length) (hPo:PartsOk P (i + 1) (Kk++G)) (hKd:∀ f∈Kk,f.dep≤d) (hd:d≤1000) (hKl:Kk.length≤2 ^ 20)
  (hrow:z6v kv=some Kk.length) (helem:∀ j (P:List Pt) o3 o4 o5 o6 o7 o8,j < Kk.length→q6s (D++[.blk gP (P.map ePt) true false 0, .blk gV [.agg [z0w t, .ob (B + 0) gP 0 t.length]] false false 0, .blk g2 [.ptr (B + 1) gV 0 0] false false 0,o3,o4,o5,o6,o7,o8,o9]) kv (Kk.length - 1 - j)=some (nat (i + 1 + z8x (Kk.take j))))
  (h4:ts 4= .ptr (B + 2) g2 0 0) (h9:ts 9= .ptr (B + 4) g4 0 0) (h10:ts 10= .ptr (B + 5) g5 0 0) (h64:ts 64= .bwd 294 kv)
  (hQ:∀ (dep:Nat) (u:Tip) (o6 o7:AObj) (clk':Nat),1≤dep→dep≤d + 1→K Gam B .skip ks ⟨ts,D++[.blk gP (P.map ePt) true false 0, .blk gV [.agg [z0w t, .ob (B + 0) gP 0 t.length]] false false 0, .blk g2 [.ptr (B + 1) gV 0 0] false false 0, .blk g3 [N] false false 0, .blk g4 [.agg [.int .i64 0, .int .i64 (dep:Int), .int .i64 ((i + 1 + z8x Kk:Nat):Int)]] false false 0, .blk g5 [.sl ((Kk.map (·.s)).map nat) u] false false 0,o6,o7,o8,o9],clk'⟩ Q):
  K Gam B (.rangeB (.tmp 64) 65 66 y2o y2p) ks ⟨ts,D++[.blk gP (P.map ePt) true false 0, .blk gV [.agg [z0w t, .ob (B + 0) gP 0 t.length]] false false 0, .blk g2 [.ptr (B + 1) gV 0 0] false false 0, .blk g3 [N] false false 0, .blk g4 [.agg [.int .i64 0, .int .i64 1, .int .i64 ((i + 1:Nat):Int)]] false false 0, .blk g5 [.sl [] .nil] false false 0,o6,o7,o8,o9],clk⟩ Q:=by
 refine k5p (f:=294) (n:=Kk.length) (v:=kv) (by simpa [AOpd.ev] using h64) hrow rfl (fun m h _=>∃ (dep:Nat) (u:Tip) (o6 o7:AObj),1≤dep∧dep≤d + 1∧h=D++[.blk gP (P.map ePt) true false 0, .blk gV [.agg [z0w t, .ob (B + 0) gP 0 t.length]] false false 0, .blk g2 [.ptr (B + 1) gV 0 0] false false 0, .blk g3 [N] false false 0, .blk g4 [.agg [.int .i64 0, .int .i64 (dep:Int), .int .i64 ((i + 1 + z8x (Kk.take (Kk.length - m)):Nat):Int)]] false false 0, .blk g5 [.sl (((Kk.take (Kk.length - m)).map (·.s)).map nat) u] false false 0,o6,o7,o8,o9]∧q3e B 7 o7 u 1) ?_ ?_ ?_
 ·refine⟨1, .nil,o6,o7,x7 _,by omega, ?_, .inl rfl⟩
  rw[Nat.sub_self,List.take_zero]
  rfl
 ·rintro m h c Pq hm ⟨dep,u,o6,o7,hd1,hd2,rfl,hu⟩ hfin
  have hj:Kk.length - (m + 1) < Kk.length:=by omega
  have hjm:Kk.length - m=Kk.length - (m + 1) + 1:=by omega
  have hel:=helem (Kk.length - (m + 1)) P (.blk g3 [N] false false 0) (.blk g4 [.agg [.int .i64 0, .int .i64 (dep:Int), .int .i64 ((i + 1 + z8x (Kk.take (Kk.length - (m + 1))):Nat):Int)]] false false 0) (.blk g5 [.sl (((Kk.take (Kk.length - (m + 1))).map (·.s)).map nat) u] false false 0) o6 o7 o8 hj
  rw[show Kk.length - 1 - (Kk.length - (m + 1))=m by omega] at hel
  refine⟨_,hel, ?_⟩
  have hpo:=hPo (Kk.length - (m + 1)) Kk[Kk.length - (m + 1)] (by rw[g9 hj];simp[hj])
  have htk:(Kk++G).take (Kk.length - (m + 1))=Kk.take (Kk.length - (m + 1)):=List.take_append_of_le_length (by omega)
  rw[htk] at hpo
  have hfd:=hKd _ (x8 hj)
  have hls:=k2l hj
  have hss:=j7v hj
  rw[←hjm] at hls hss
  generalize Kk[Kk.length - (m + 1)]=f at hpo hfd hls hss
  generalize hst:i + 1 + z8x (Kk.take (Kk.length - (m + 1)))=st at hpo
  have hget:=x5l hpo
  dsimp only at hget
  have hix:∀ L,z1v (D++ .blk gP (P.map ePt) true false 0::L) 3 (.ob (B + 0) gP 0 t.length) (.int .i64 (st:Int))=some (.ptr (B + 0) gP st 0,D++ .blk gP (P.map ePt) true false 0::L):=fun L=>q7u hB hpo hPl
  have e1:IntKind.i64.wrap ((f.dep:Int) + 1)=((f.dep + 1:Nat):Int):=z0c (by omega) (by omega)
  have e2:(if ((f.dep + 1:Nat):Int) > (dep:Int) then ((f.dep + 1:Nat):Int) else (dep:Int))=((max dep (f.dep + 1):Nat):Int):=by split <;> omega
  simp only[go_sem,y2o,y2p,z1p,h4,h9,h10,hB,nat,hix,hget]
  rw[show [AV.int .i64 (f.s:Int)]=[f.s].map nat from rfl,z1c hB rfl hu z8d z8d (by simp only[z6,v6,List.length_take];omega)]
  have hst2:st + f.len=i + 1 + z8x (Kk.take (Kk.length - m)):=by omega
  simp only[go_sem,h4,h9,h10,hB,nat,hix,hget,e1,e2,←hss,hst2]
  exact⟨by simp[z1r,apart,z0q,z1n,z1t,AOp.isCall,hB],hfin _ ⟨max dep (f.dep + 1),_,_,_,by omega,by omega,rfl, .inr (.inr ⟨_,rfl,rfl⟩)⟩⟩
 ·rintro h c ⟨dep,u,o6,o7,hd1,hd2,rfl,hu⟩
  rw[Nat.sub_zero,List.take_length]
  exact hQ dep u o6 o7 c hd1 hd2
theorem j7w {D L:List AObj} {B gP i:Nat} {P:List Pt} {p q:Pt} (hB:D.length=B) (hi:P[i]? =some q):z8n (D++ .blk gP (P.map ePt) true false 0::L) 3 (.agg [.int .i64 (p.sort:Int), .int .i64 (p.depth:Int), .int .i64 (p.fin:Int)]) (.ptr (B + 0) gP i 0)=some (.undef,D++ .blk gP ((P.set i p).map ePt) true false 0::L):=by
 have hb:z2f (D++ .blk gP (P.map ePt) true false 0::L) (B + 0) gP=some (P.map ePt,true,false,0):=by rw[z3n hB];simp[z2f]
 have hp:∀ h:List AObj,pub h (.agg [.int .i64 (p.sort:Int), .int .i64 (p.depth:Int), .int .i64 (p.fin:Int)])=some (.agg [.int .i64 (p.sort:Int), .int .i64 (p.depth:Int), .int .i64 (p.fin:Int)],h):=fun h=>rfl
 have hg:(P.map ePt)[i]? =some (ePt q):=by rw[m8,hi];rfl
 rw[z6f,hb]
 simp only[hg,if_true,hp]
 rw[if_pos ⟨rfl,rfl,rfl,fun _=>⟨Nat.zero_le _,rfl⟩⟩]
 have:z7m (ePt q).cells 0 (AV.agg [.int .i64 (p.sort:Int), .int .i64 (p.depth:Int), .int .i64 (p.fin:Int)]).cells=some [.int .i64 (p.sort:Int), .int .i64 (p.depth:Int), .int .i64 (p.fin:Int)]:=rfl
 rw[this,j5,z2o hB,List.map_set]
 rfl
theorem k2o {D:List AObj} {B:Nat} {t:Term} {gP gV g2:Nat} {V:List Var} {n:Node} {ss:List Nat} {s d:Nat} {ksT pre post:Term} {Kk G:List Tr} {st:St} {ks:List Kf} {Q:Post} (hB:D.length=B) (hn:NodeOk V n ss s ksT) (hV:∀ v∈V,v∈U) (hk:n.kids=ss.length) (ht:t=pre++n::(ksT++post)) (hKs:Kk.map (·.s)=ss) (hKd:∀ f∈Kk,f.dep≤d) (hd:d≤1000) (hN:(Kk++G).length≤2 ^ 20) (htl:t.length≤2 ^ 20)
  (hst:j4o D B t gP gV g2 (pre.length + 1) (Kk++G) st)
  (hQ:∀ st' dep,dep≤d + 1→j4o D B t gP gV g2 pre.length (⟨s,1 + z8x Kk,dep⟩::G) st'→K Gam B (.loop q5h) ks st' Q):K Gam B (.loop q5h) ks st Q:=by
 obtain⟨ts,h,clk⟩:=st
 obtain⟨P,o3,o4,o5,o6,o7,o8,o9,hPl,hPo,h0,h4,h6,hr,rfl⟩:=hst
 dsimp only at h0 h4 h6 hr
 generalize hip:pre.length=i at *
 have hKlen:Kk.length=n.kids:=by rw[hk,←hKs,z6]
 have hNl:(Kk++G).length=n.kids + G.length:=by rw[k7,hKlen]
 have hss:ss.length≤2 ^ 20:=by omega
 have hti:t[i]? =some n:=by
  rw[ht,b0 (by omega),show i - pre.length=0 by omega]
  rfl
 have hilt:i < t.length:=by
  rw[x9] at hti
  exact hti.1
 obtain⟨hlen,kv,rv,hkv,hrv,hrow,helem,happ⟩:=j1k (t:=t) (gP:=gP) (gV:=gV) (g2:=g2) hB hr hN
 simp only[z7k] at hkv hrv helem happ⊢
 generalize h5:ts 5=r5 at *
 have e0:((i + 1:Nat):Int) - 1=(i:Int):=by omega
 rw[e0] at h6
 have e1:decide ((0:Int)≤(i:Int))=true:=by rw[r8];omega
 have e2:decide ((n.kids:Int) < 0)=false:=by rw[n9];omega
 have e3:decide (((Kk++G).length:Int) < (n.kids:Int))=false:=by rw[n9];omega
 have e4:IntKind.i64.wrap (((Kk++G).length:Int) - (n.kids:Int))=(G.length:Int):=by rw[z0c (by omega) (by omega)];omega
 have e5:IntKind.i64.wrap ((i:Int) + 1)=((i + 1:Nat):Int):=z0c (by omega) (by omega)
 have e6:IntKind.i64.wrap ((i:Int) - 1)=(i:Int) - 1:=z0c (by omega) (by omega)
 have h249:Pure Gam 189 [.agg [.int .i64 (n.op:Int), .int .i64 (n.sort:Int), .str n.name, .str n.num, .int .i64 (n.kids:Int)]] (.bool true):=w0e hn hV
 have h250:Pure Gam 190 [.int .i64 (n.op:Int), .int .i64 (n.kids:Int)] (.bool true):=w0f hn
 rw[z0w] at h0
 refine z3t ?_
 simp only[go_sem,q5h,h0,h4,h5,h6,hB,e1,z2s hti,e2,hlen,e3,z0a h249,z0a h250,z8,e4,e5,hkv,y2n hrow]
 refine k2n (P:=P) hB hPl hPo hKd hd (by omega) hrow helem (by simp[z0b,h4]) (by simp[z0b]) (by simp[z0b]) (by simp[z0b]) ?_
 intro dep u o6 o7 clk' hd1 hd2
 have h252:∀ u,Pure Gam 191 [.agg [.int .i64 (n.op:Int), .int .i64 (n.sort:Int), .str n.name, .str n.num, .int .i64 (n.kids:Int)], .sl (ss.map nat) u] (.int .i64 (s:Int)):=fun u=>w0g hn hss
 have hs:=hn.pos hV
 have e7:decide ((s:Int)=0)=false:=by rw[n9];omega
 obtain⟨q,hq⟩:∃ q,P[i]? =some q:=⟨P[i],by simp[hPl,hilt]⟩
 have happ':=fun P o3 o4 o5 o6 o7 g8 gen=>happ ⟨s,1 + z8x Kk,dep⟩ P o3 o4 o5 o6 o7 g8 gen rfl
 have hPo':=PartsOk.node (s:=s) (dep:=dep) hPo (by omega)
 have hst:=fun L=>j7w (L:=L) (B:=B) (gP:=gP) (p:=⟨s,dep,i + 1 + z8x Kk⟩) hB hq
 simp only at hst
 simp only[nat] at happ'
 have fin:∀ (ts':Tmps) (P':List Pt) (o3 o4 o5 o6 o7 o8:AObj) (gen clk':Nat),P'=P.set i ⟨s,dep,i + 1 + z8x Kk⟩→ts' 0= .sl (t.map eNode) .no→ts' 4= .ptr (B + 2) g2 0 0→ts' 5= .ob (B + 9) gen 0 (G.length + 1)→ts' 6= .int .i64 ((i:Int) - 1)→
   K Gam B (.loop q5h) ks ⟨ts',z7k D B t gP gV g2 P' o3 o4 o5 o6 o7 o8 (.blk gen ((z4d i (⟨s,1 + z8x Kk,dep⟩::G)).reverse.map nat) true true 0),clk'⟩ Q:=by
  intro ts' P' o3 o4 o5 o6 o7 o8 gen clk' hP' q0 q4 q5 q6
  refine hQ _ dep hd2 ⟨P',_,_,_,_,_,_,_,by rw[hP',List.length_set];exact hPl, ?_,q0,q4,q6, .inr ⟨by simp,gen,q5,rfl⟩,rfl⟩
  rw[hP',d3]
  exact hPo'
 by_cases h15:n.op=15
 ·obtain⟨m,r,hmr,hm3⟩:=hn.mul_num h15
  have ht1:t[i + 1]? =some m:=by
   rw[ht,b0 (by omega),show i + 1 - pre.length=1 by omega,hmr]
   rfl
  have f1:decide ((n.op:Int)=15)=true:=by rw[r8];omega
  have f2:decide ((m.op:Int)=3)=true:=by rw[r8];omega
  simp only[go_sem,h0,h4,h5,h6,hB,hKs,z0a (h252 _),e7,f1,e5,z2s ht1,f2,z8,q7u hB hq hPl,hst,hlen,e4,hrv,happ',e6]
  exact fin _ _ _ _ _ _ _ _ _ _ rfl (by simp[z0b,h0]) (by simp[z0b,h4]) (by simp[z0b]) (by simp[z0b])
 ·have f1:decide ((n.op:Int)=15)=false:=by rw[n9];omega
  simp only[go_sem,h0,h4,h5,h6,hB,hKs,z0a (h252 _),e7,f1,q7u hB hq hPl,hst,hlen,e4,hrv,happ',e6]
  exact fin _ _ _ _ _ _ _ _ _ _ rfl (by simp[z0b,h0]) (by simp[z0b,h4]) (by simp[z0b]) (by simp[z0b])
end
def RVG (x:Option (List AV)) (R:AV→List AObj→Prop) (h:List AObj):Prop:=
 match x with
 | some vs=>(z1k vs).obs=[]∧R (z1k vs).cv h
 | none=>False
def y4n (rs:List ARes) (R:AV→List AObj→Prop):Post:=fun e s=>(∀ i,e≠ .exit i)∧RVG (z1s s.h s.ts rs) R s.h
theorem k8l {rs:List ARes} {R:AV→List AObj→Prop} {ts:Tmps} {h:List AObj} {c:Nat}:y4n rs R .ret ⟨ts,h,c⟩=RVG (z1s h ts rs) R h:=by simp[y4n]
theorem q2u {vs:List AV} {R:AV→List AObj→Prop} {h:List AObj} (ho:(z1k vs).obs=[]):RVG (some vs) R h=R (z1k vs).cv h:=by simp[RVG,ho]
attribute [go_sem] k8l
theorem x0k {f:Nat} {args az:List AV} {h:List AObj} {clk:Nat} {af:AFun} {Q:AV→List AObj→Nat→Prop} (hext:Gam.ext f=none) (hfn:Gam.fn f=some af) (hb:af.byref=[]) (ho:af.owned=false) (hobs:z4u args=[]) (has:cvL args=az) (hids:z0i az=[])
  (hw:∀ (D:List AObj) (B:Nat) (R:AV→List AObj→Prop),D.length=B→B=h.length→(∀ v L',(∃ i∈v.ids,B≤i)→(∀ c,Q v (h++L') c)→R v (D++L'))→K Gam B af.body [] ⟨q0f az,D++x3 af.nslots .dead,clk⟩ (y4n af.results R)):WC Gam f args h clk Q:=by
 obtain⟨k,e,s,he,hne,hend⟩:=hw (maskFrom [] 0 h) h.length (fun v h'=>(∃ i∈v.ids,h.length≤i)∧∀ c,Q v (h++h'.drop h.length) c) (z4h) rfl (fun v L' hi hq=>⟨hi,by
  rw[List.drop_left' z4h]
  exact hq⟩)
 have hp:z1q h af.byref 0 args=some az:=by rw[hb,z2g hobs,has]
 have hl:z0p af.byref 0 args=[]:=by rw[hb];exact z6o hobs
 unfold RVG at hend
 split at hend
 ·rename_i vs hr
  obtain⟨hob,⟨i,hi1,hi2⟩,hq⟩:=hend
  have hc:=q0q (h:=s.h) hob
  refine⟨k,(z1k vs).cv,h++s.h.drop h.length,s.clk, ?_,hq _⟩
  have hall:((z1k vs).cv.ids.all fun x=>decide (x < h.length))=false:=by
   rw[List.all_eq_false]
   exact⟨i,hi1,by simp;omega⟩
  unfold z5w z0k
  simp only[hext,hfn,hp,hl,freezeAll,hids,reach,he,ho,j9,if_false,hr,hc,hob,z9w,k8,List.flatten_nil,List.append_nil,ite_self]
  cases e with
  | exit i=>exact absurd rfl (hne i)
  | norm=>simp[hall]
  | ret=>simp[hall]
 ·exact hend.elim
theorem z6t {f base gg clk:Nat} {args:List AV} {h:List AObj} {dst:Option Nat} {os:List AOper} {ts:Tmps} {ks:List Kf} {Q:Post} (hw:WC Gam f args h clk fun v h' c=>O Gam base .plain (gg + 1) os ⟨z8g ts dst v,h',c⟩ ks Q):CK Gam base f args h clk .plain dst gg os ts ks Q:=hw
section
variable {U:List Var} [UOk U]
theorem j1l {D:List AObj} {B:Nat} {t:Term} {gP gV g2:Nat} {V:List Var} {ks:List Kf} {Q:Post} (hB:D.length=B) (hV:∀ v∈V,v∈U) (htl:t.length≤2 ^ 19) {ss:List Nat} {d:Nat} {u:Term} (h:WF V ss d u):∀ {pre post:Term} {G:List Tr} {st:St},d≤1000→t=pre++(u++post)→G.length≤post.length→j4o D B t gP gV g2 (pre.length + u.length) G st→
  (∀ st' Fu,Fu.map (·.s)=ss→z8x Fu=u.length→Fu.length≤u.length→(∀ f∈Fu,f.dep≤d)→j4o D B t gP gV g2 pre.length (Fu++G) st'→K Gam B (.loop q5h) ks st' Q)→K Gam B (.loop q5h) ks st Q:=by
 induction h with
 | nil=>
   intro pre post G st _ _ _ hst hQ
   exact hQ st [] rfl rfl (by simp) (by simp) (by simpa using hst)
 | @cons n ss ks' s d ss' rest h1 h2 h3 h4 ih1 ih2=>
   intro pre post G st hd ht hG hst hQ
   have e1:t=(pre++n::ks')++(rest++post):=by rw[ht];simp
   refine ih2 (pre:=pre++n::ks') (post:=post) hd e1 hG (by
    have e:pre.length + (n::(ks'++rest)).length=(pre++n::ks').length + rest.length:=by simp;omega
    rw[←e]
    exact hst) fun st1 Fr hr1 hr2 hr2' hr3 hr4=> ?_
   have e2:t=(pre++[n])++(ks'++(rest++post)):=by rw[ht];simp
   have hlen:=congrArg List.length ht
   simp only[k7,v5] at hlen
   refine ih1 (pre:=pre++[n]) (post:=rest++post) (G:=Fr++G) (by omega) e2 (by simp only[k7];omega) (by
    have e:(pre++n::ks').length=(pre++[n]).length + ks'.length:=by simp;omega
    rw[←e]
    exact hr4) fun st2 Fk hk1 hk2 hk2' hk3 hk4=> ?_
   refine k2o (t:=t) (pre:=pre) (post:=rest++post) (Kk:=Fk) (G:=Fr++G) hB h2 hV h3 (by rw[ht];simp) hk1 hk3 (by omega) (by simp only[k7];omega) (by omega) (by simpa using hk4) fun st3 dep hd3 hst3=> ?_
   refine hQ st3 (⟨s,1 + z8x Fk,dep⟩::Fr) (by simp[hr1]) ?_ ?_ ?_ (by simpa using hst3)
   ·rw[q5k,hk2,hr2];simp;omega
   ·simp only[v5,k7];omega
   ·intro f hf
    rw[j6] at hf
    rcases hf with rfl | hf
    ·exact hd3
    ·exact hr3 f hf
theorem u0t {V:List Var} {s d:Nat} {t:Term} {u:Tip} {h:List AObj} {clk:Nat} {Q:AV→List AObj→Nat→Prop} (ht:WF V [s] d t) (hV:∀ v∈V,v∈U) (hl:t.length≤20000) (hd:d≤1000)
  (hQ:∀ gP gV g2 P dep o3 o4 o5 o6 o7 o8 o9 c,P.length=t.length→P[0]? =some ⟨s,dep,t.length⟩→dep≤d→Q (.tup [.ptr (h.length + 1) gV 0 0, .bool true]) (z7k h h.length t gP gV g2 P o3 o4 o5 o6 o7 o8 o9) c):WC Gam 192 [.sl (t.map eNode) u] h clk Q:=by
 refine x0k rfl y9q rfl rfl rfl (az:=[z0w t]) rfl (by simp[z0i,z3z]) fun D B R hB hBh hR=> ?_
 have hms:∀ h s g,msV h s g (.agg [.int .i64 0, .int .i64 0, .int .i64 0]) 24 (.int .i64 (t.length:Int)) (.int .i64 (t.length:Int))=some (.ob s g 0 t.length,h.set s (.blk g (x3 t.length (.agg [.int .i64 0, .int .i64 0, .int .i64 0])) true false 0)):=fun h s g=>q9v rfl (by omega)
 have hrep:x3 t.length (AV.agg [.int .i64 0, .int .i64 0, .int .i64 0])=(x3 t.length (⟨0,0,0⟩:Pt)).map ePt:=by rw[List.map_replicate];rfl
 have e0:IntKind.i64.wrap ((t.length:Int) - 1)=(t.length:Int) - 1:=z0c (by omega) (by omega)
 simp only[go_sem,y1j,hB,z0w,z6,hms,hrep,e0]
 refine j1l (pre:=[]) (post:=[]) (G:=[]) hB hV (by omega) ht hd (by simp) (by simp) ⟨x3 t.length ⟨0,0,0⟩,_,_,_,_,_,_,_,by simp,PartsOk.nil,by simp[z0b,z3p,z0w],by simp[z0b],by simp[z0b], .inl ⟨rfl,by simp[z0b]⟩,rfl⟩ ?_
 rintro ⟨ts,h',clk'⟩ Fu hF1 hF2 hF3 hF4 ⟨P,o3,o4,o5,o6,o7,o8,o9,hPl,hPo,h0,h4,h6,hr,rfl⟩
 dsimp only at h0 h4 h6 hr
 obtain⟨f,rfl⟩:∃ f,Fu=[f]:=by
  match Fu,hF1 with
  | [f],_=>exact⟨f,rfl⟩
 have hfs:f.s=s:=by simpa using hF1
 have hfl:f.len=t.length:=by simpa [z8x] using hF2
 rcases hr with ⟨hbad,_⟩ | ⟨_,g,h5,ho9⟩
 ·simp at hbad
 have hp0:=hPo 0 f (by simp)
 rw[hfs,hfl] at hp0
 have hp0':P[0]? =some ⟨s,f.dep,t.length⟩:=by simpa [z8x] using hp0
 have e1:decide ((0:Int)≤ -1)=false:=by decide
 have h6':ts 6= .int .i64 (-1):=by rw[h6];rfl
 refine z3t ?_
 simp only[go_sem,q5h,h6',e1,h4,h5,z7k,hB,z0w,decide_true]
 rw[q2u rfl]
 refine hR _ _ ⟨B + 1,by simp[z1k,AV.cv,cvL,AV.ids,z0i],by omega⟩ fun c=> ?_
 have:=fun gP gV g2=>hQ gP gV g2 P f.dep o3 o4 o5 o6 o7 o8 o9 c hPl hp0' (hF4 f (by simp))
 simp only[←hBh,z7k,z0w] at this
 exact this _ _ _
end
section
variable {U:List Var} [UOk U]
theorem WF.nodes {V:List Var} {ss:List Nat} {d:Nat} {t:Term} (h:WF V ss d t):∀ n∈t,∃ ss' s' ks,NodeOk V n ss' s' ks:=by
 induction h with
 | nil=>simp
 | cons h1 h2 h3 h4 ih1 ih2=>
   intro n hn
   rw[j6,x4] at hn
   rcases hn with rfl | hn | hn
   ·exact⟨_,_,_,h2⟩
   ·exact ih1 n hn
   ·exact ih2 n hn
theorem NodeOk.name {V:List Var} {n:Node} {ss:List Nat} {s:Nat} {ks:Term} (hn:NodeOk V n ss s ks):n.op≠5∧(n.op=4→∃ v∈V,n.name=v.name∧n.sort=v.sort):=by
 cases hn with
 | var h=>exact⟨by simp,fun _=>⟨_,h,rfl,rfl⟩⟩
 | bool h=>exact⟨by simp[bare];omega,fun e=>by simp[bare] at e;omega⟩
 | andor h=>exact⟨by simp[bare];omega,fun e=>by simp[bare] at e;omega⟩
 | cmp h hs=>exact⟨by simp[bare];omega,fun e=>by simp[bare] at e;omega⟩
 | div h _ _=>exact⟨by simp;omega,fun e=>by simp at e;omega⟩
 | _=>exact⟨by simp[bare],fun e=>by simp[bare] at e⟩
def x0l (V:List Var) (t:Term):Prop:=∀ n∈t,n.op≠5∧(n.op=4→∃ v∈V,n.name=v.name∧n.sort=v.sort)
theorem WF.names {V:List Var} {ss:List Nat} {d:Nat} {t:Term} (h:WF V ss d t):x0l V t:=fun n hn=>by
 obtain⟨_,_,_,h⟩:=h.nodes n hn
 exact h.name
def z3i:Term→List Var→List Var
 | [],acc=>acc
 | n::t,acc=>if n.op=4∧(⟨n.name,n.sort⟩:Var)∉acc then z3i t (acc++[⟨n.name,n.sort⟩]) else z3i t acc
theorem q2v {V:List Var}:∀ {t:Term} {acc:List Var},x0l V t→(∀ v∈acc,v∈V)→∀ v∈z3i t acc,v∈V
 | [],acc,_,ha,v,hv=>ha v hv
 | n::t,acc,hn,ha,v,hv=>by
   have ht:x0l V t:=fun m hm=>hn m (v7 _ hm)
   simp only[z3i] at hv
   split at hv
   ·rename_i hc
    refine q2v ht (fun w hw=> ?_) v hv
    rw[x4,List.mem_singleton] at hw
    rcases hw with hw | rfl
    ·exact ha w hw
    ·obtain⟨v',hv',e1,e2⟩:=(hn n j7).2 hc.1
     rw[e1,e2]
     exact hv'
   ·exact q2v ht ha v hv
theorem x5m {t u:Term} {acc:List Var}:z3i (t++u) acc=z3i u (z3i t acc):=by
 induction t generalizing acc with
 | nil=>rfl
 | cons n t ih=>
   simp only[y6,z3i]
   split
   ·exact ih
   ·exact ih
theorem q2w:∀ {t:Term} {acc:List Var},(z3i t acc).length≤acc.length + t.length
 | [],acc=>x7 _
 | n::t,acc=>by
   simp only[z3i,v5]
   split
   ·have:=q2w (t:=t) (acc:=acc++[⟨n.name,n.sort⟩])
    simp at this
    omega
   ·have:=q2w (t:=t) (acc:=acc)
    omega
theorem x5n {v w:Var} (hv:v∈U) (hw:w∈U) (h:v.name=w.name):v=w:=UOk.inj v hv w hw h
def q1z (acc:List Var):List (AV×AV):=acc.map fun v=>(.str v.name,z2b v)
theorem q7h {v:Var} (hv:v∈U):∀ {acc:List Var},(∀ w∈acc,w∈U)→findKey (.one .str) (.str v.name) (q1z acc)=some (if v∈acc then some (z2b v) else none)
 | [],_=>rfl
 | w::acc,ha=>by
   have ih:=q7h hv (acc:=acc) fun x hx=>ha x (v7 _ hx)
   unfold q1z at ih⊢
   simp only[j4,findKey,AV.eqv,AV.eq1]
   by_cases h:v=w
   ·subst h
    simp
   ·have hne:decide (v.name=w.name)=false:=decide_eq_false fun e=>h (x5n hv (ha w j7) e)
    simp only[hne,ih,j6,h,false_or]
theorem x0m {v:Var} (hv:v∈U):∀ {acc:List Var},(∀ w∈acc,w∈U)→v∉acc→z6j (.one .str) (.str v.name) (z2b v) (q1z acc)=some (q1z (acc++[v]))
 | [],_,_=>rfl
 | w::acc,ha,hn=>by
   rw[j6,not_or] at hn
   have ih:=x0m hv (acc:=acc) (fun x hx=>ha x (v7 _ hx)) hn.2
   have hne:decide (v.name=w.name)=false:=decide_eq_false fun e=>hn.1 (x5n hv (ha w j7) e)
   unfold q1z at ih⊢
   simp only[j4,y6,z6j,AV.eqv,AV.eq1,hne,ih,j5]
theorem x0n {h:List AObj} {z:AV} {es:List (AV×AV)} {s:List Nat} {r:Option AV} (hf:findKey (.one .str) (.str s) es=some r):lkV h (.one .str) z true (some es) (.str s)=some (q4f true z r,h):=by
 have:((AV.str s).eqv (.one .str) (.str s)).isSome=true:=by simp[AV.eqv,AV.eq1]
 simp only[lkV,this,if_true,hf,j5]
theorem w0h {h:List AObj} {z:AV} {es:List (AV×AV)} {s:List Nat} {r:Option AV} (hf:findKey (.one .str) (.str s) es=some r):lkV h (.one .str) z false (some es) (.str s)=some (q4f false z r,h):=by
 have:((AV.str s).eqv (.one .str) (.str s)).isSome=true:=by simp[AV.eqv,AV.eq1]
 simp only[lkV,this,if_true,hf,j5]
theorem x3g {z v:AV}:q4f true z (some v)= .tup [v, .bool true]:=(rfl)
theorem q0d {z:AV}:q4f true z none= .tup [z, .bool false]:=(rfl)
theorem z5c {z v:AV}:q4f false z (some v)=v:=(rfl)
theorem z3w {z:AV}:q4f false z none=z:=(rfl)
theorem z2p {h:List AObj} {s g:Nat}:x6n h (.mp s g)=z5d h s g:=(rfl)
theorem x8y {D L:List AObj} {B k g:Nat} {es es':List (AV×AV)} {s:List Nat} {v:AV} (hB:D.length=B) (hm:z5d L k g=some es) (ho:v.obs=[]) (hp:z6j (.one .str) (.str s) v.cv es=some es'):muV (D++L) (.one .str) (.str s) v (.mp (B + k) g)=some (.undef,D++L.set k (.map g es')):=by
 have hpub:pub (D++L) v=some (v.cv,D++L):=by simp only[pub,q0q ho,j5,ho,freezeAll]
 have:((AV.str s).eqv (.one .str) (.str s)).isSome=true:=by simp[AV.eqv,AV.eq1]
 simp only[muV,x4t hB,hm,hpub,this,if_true,hp,j5,z2o hB]
end
end
end Go.Proofs.YtkollgjffkdliaaGreatDoor.Am
