/- The row of MergeClauses out of the abstract machine's answer -/
import Derived.Test.YtkollgjffkdliaaGreatDoorM36
set_option linter.all false
namespace Go.Proofs.YtkollgjffkdliaaGreatDoor.Am
open Go Go.ChangeShapes Go.WideShapes Go.ChangeAt Go.RowKit
def x2l:Prop:=∃ (Γ:AProg) (back:Nat→Option Nat),ProgOk Tryz.prog back Γ∧q1t Tryz.prog back∧q1b Tryz.prog Γ∧∀ zs0 zs1 zs2:List Int,(∀ n∈zs0,(Lit.int .i64 n).wf=true)→(∀ n∈zs1,(Lit.int .i64 n).wf=true)→(∀ n∈zs2,(Lit.int .i64 n).wf=true)→∃ k h clk,z5c Γ k 5 [q7l zs0,q7l zs1,q7l zs2] [] 0=some (.bool true,h,clk)
set_option maxRecDepth 100000 in
theorem v4b (hA:x2l) (H:Type) (enc:TypeId×Value→H) (W:World) (base:Nat) (args:Array Value) (ds gs:List (DataW H)) (before:List MemPlace)
  (hval:∀ (j:Nat) t v,Tryz.f5.params[j]? =some t→args[j]? =some v→Value.okWide Tryz.prog W .any base t v)
  (hW:DataW.Whole enc Tryz.prog Tryz.f5.params.toList Rows.mergeClausesSpec.vars false W args.toList ds gs before):
  Calls Tryz.prog 5 args W fun e W'=>∃ v,e= .returned v∧Rows.mergeClausesSpec.post enc Tryz.prog Tryz.f5 false true false false W args v W':=by
 have hW':=hW
 obtain⟨p,q,hA0,hV,rfl,hfz,hnd⟩:=hW
 have hT:DataW.TrodAll enc Tryz.prog W 0 (fun _=>true) true Tryz.f5.params.toList args.toList ds p:=hA0
 rw[Tryz.params5] at hT hval
 obtain⟨v0,vs0,d0,ds0,p0,q0,hargs0,rfl,rfl,h0,r0⟩:=trodAll_cons hT
 obtain⟨v1,vs1,d1,ds1,p1,q1,hargs1,rfl,rfl,h1,r1⟩:=trodAll_cons r0
 obtain⟨v2,vs2,d2,ds2,p2,q2,hargs2,rfl,rfl,h2,r2⟩:=trodAll_cons r1
 obtain⟨rfl,rfl,rfl⟩:=trodAll_nil r2
 obtain rfl:args= #[v0,v1,v2]:=by cases args;simp_all
 obtain⟨rfl,rfl⟩:=trodVars_none hV
 obtain⟨a0,len0,cap0,rfl⟩:=okWide_slice Tryz.underlying22 (hval 0 22 v0 rfl rfl)
 have k0:=h0
 have lt0:∀ x∈p0,x.block < W.heap.size:=by obtain⟨m,hm⟩:=k0;exact DataW.trod_lt m _ _ _ hm
 obtain⟨zs0,hwz0,hvr0⟩:=x8a h0
 obtain⟨a1,len1,cap1,rfl⟩:=okWide_slice Tryz.underlying22 (hval 1 22 v1 rfl rfl)
 have k1:=h1
 have lt1:∀ x∈p1,x.block < W.heap.size:=by obtain⟨m,hm⟩:=k1;exact DataW.trod_lt m _ _ _ hm
 obtain⟨zs1,hwz1,hvr1⟩:=x8a h1
 obtain⟨a2,len2,cap2,rfl⟩:=okWide_slice Tryz.underlying22 (hval 2 22 v2 rfl rfl)
 have k2:=h2
 have lt2:∀ x∈p2,x.block < W.heap.size:=by obtain⟨m,hm⟩:=k2;exact DataW.trod_lt m _ _ _ hm
 obtain⟨zs2,hwz2,hvr2⟩:=x8a h2
 obtain⟨Γ,back,hΓ,hB,hI,hall⟩:=hA
 obtain⟨k,h,clk,hc⟩:=hall zs0 zs1 zs2 hwz0 hwz1 hwz2
 refine (j3v hΓ hB hI Tryz.func5 rfl (by decide) rfl hc (cargs:= #[.slice a0 len0 cap0, .slice a1 len1 cap1, .slice a2 len2 cap2]) (by simp only[VRL];exact⟨_,_,rfl,hvr0,⟨_,_,rfl,hvr1,⟨_,_,rfl,hvr2,rfl⟩⟩⟩)).mono fun e W' he=> ?_
 obtain⟨cv,G',I',rfl,hcv,bel⟩:=he
 simp only[VR] at hcv
 subst hcv
 exact⟨_,rfl,_,_,_,[],_,[],hW',trodAll_mk1 (shut_bool Tryz.underlying4 _),(trodAll_cons_mk (Below.trod j3u (by kernel_rfl) (of_decide_eq_true (by kernel_rfl)) k0 bel lt0) (trodAll_cons_mk (Below.trod j3u (by kernel_rfl) (of_decide_eq_true (by kernel_rfl)) k1 bel lt1) (trodAll_cons_mk (Below.trod j3u (by kernel_rfl) (of_decide_eq_true (by kernel_rfl)) k2 bel lt2) trodAll_mk0))),rfl,bel.frame _,fun h=>by cases h⟩
noncomputable def x2m (os:Os):World:=World.doorLaid Tryz.prog 4000 os
set_option maxRecDepth 100000 in
theorem v4c (os:Os):laidMetH Tryz.prog Rows.mergeClausesRow.laid ((x2m os).forCall (fun _ _=>0) ⟨#[], #[.slice none 0 0, .slice none 0 0, .slice none 0 0],[]⟩).memory:=
 laidMetH_of_parts3 (fuel:=8) (laidMet_of_run' 8 (by kernel_rfl) (by kernel_rfl)) (by kernel_rfl) (by kernel_rfl)
set_option maxRecDepth 100000 in
theorem reads (os:Os) {H:Type} (enc:TypeId×Value→H):∃ places,DataW.whole enc Tryz.prog ((x2m os).forCall (fun _ _=>0) ⟨#[], #[.slice none 0 0, .slice none 0 0, .slice none 0 0],[]⟩).memory Tryz.f5.params.toList Rows.mergeClausesSpec.vars false #[Value.slice none 0 0, .slice none 0 0, .slice none 0 0].toList 8=some ([.nil, .nil, .nil],[],places):=
 ⟨[],by kernel_rfl⟩
set_option maxRecDepth 100000 in
theorem u0z (hA:x2l) (os:Os) (started:os.Started) (H:Type) (enc:TypeId×Value→H) (F:Stop.Interp):
  ReturnsInHanded {} Tryz.checked os 5 .any ((OpenSpec.ofChange Rows.mergeClausesSpec).preRow enc Tryz.prog Tryz.f5 Rows.mergeClausesRow.domain false Rows.mergeClausesRow.laid) (((OpenSpec.ofChange Rows.mergeClausesSpec).at F).post enc Tryz.prog Tryz.f5 false true false false):=by
 obtain⟨places,hx⟩:=reads os enc
 refine returnsInHanded_of_row (C:=Tryz.checked) (s:=OpenSpec.ofChange Rows.mergeClausesSpec) v3z started (by kernel_rfl) Tryz.func5
  (witness_row_atRef (enc:=enc) (C:=Tryz.checked) false (x2m os) #[.slice none 0 0, .slice none 0 0, .slice none 0 0] rfl (by kernel_rfl) (by kernel_rfl) (by kernel_rfl)
   (OpenSpec.preRow_of_cond 8 hx (by kernel_rfl) (fun k hk=>by cases hk) (by kernel_rfl) (v4c os))) ?_
 intro W base args ds gs before hval hW _ _ _ hL _ _
 exact v4b hA H enc W base args ds gs before hval hW
end Go.Proofs.YtkollgjffkdliaaGreatDoor.Am
