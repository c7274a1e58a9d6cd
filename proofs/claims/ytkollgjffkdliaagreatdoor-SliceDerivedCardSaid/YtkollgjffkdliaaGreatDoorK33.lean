/- The row of SliceDerived out of the abstract machine's answer -/
import Derived.Test.YtkollgjffkdliaaGreatDoorK32
set_option linter.all false
namespace Go.Proofs.YtkollgjffkdliaaGreatDoor.Am
open Go Go.ChangeShapes Go.WideShapes Go.ChangeAt Go.RowKit
def x1k:Prop:=∃ (Γ:AProg) (back:Nat→Option Nat),ProgOk Tryz.prog back Γ∧q1b Tryz.prog back∧q0m Tryz.prog Γ∧∀ zs0 zs1:List Int,(∀ n∈zs0,(Lit.int .i64 n).wf=true)→(∀ n∈zs1,(Lit.int .i64 n).wf=true)→∃ k h clk,z5w Γ k 3 [x1j zs0,x1j zs1] [] 0=some (.bool true,h,clk)
set_option maxRecDepth 100000 in
theorem v0v (hA:x1k) (H:Type) (enc:TypeId×Value→H) (W:World) (base:Nat) (args:Array Value) (ds gs:List (DataW H)) (before:List MemPlace)
  (hval:∀ (j:Nat) t v,Tryz.f3.params[j]? =some t→args[j]? =some v→Value.okWide Tryz.prog W .any base t v)
  (hW:DataW.Whole enc Tryz.prog Tryz.f3.params.toList Rows.sliceDerivedSpec.vars false W args.toList ds gs before):
  Calls Tryz.prog 3 args W fun e W'=>∃ v,e= .returned v∧Rows.sliceDerivedSpec.post enc Tryz.prog Tryz.f3 false true false false W args v W':=by
 have hW':=hW
 obtain⟨p,q,hA0,hV,rfl,hfz,hnd⟩:=hW
 have hT:DataW.TrodAll enc Tryz.prog W 0 (fun _=>true) true Tryz.f3.params.toList args.toList ds p:=hA0
 rw[Tryz.params3] at hT hval
 obtain⟨v0,vs0,d0,ds0,p0,q0,hargs0,rfl,rfl,h0,r0⟩:=trodAll_cons hT
 obtain⟨v1,vs1,d1,ds1,p1,q1,hargs1,rfl,rfl,h1,r1⟩:=trodAll_cons r0
 obtain⟨rfl,rfl,rfl⟩:=trodAll_nil r1
 obtain rfl:args= #[v0,v1]:=by cases args;simp_all
 obtain⟨rfl,rfl⟩:=trodVars_none hV
 obtain⟨a0,len0,cap0,rfl⟩:=okWide_slice Tryz.underlying22 (hval 0 22 v0 rfl rfl)
 have k0:=h0
 have lt0:∀ x∈p0,x.block < W.heap.size:=by obtain⟨m,hm⟩:=k0;exact DataW.trod_lt m _ _ _ hm
 obtain⟨zs0,hwz0,hvr0⟩:=j5t h0
 obtain⟨a1,len1,cap1,rfl⟩:=okWide_slice Tryz.underlying22 (hval 1 22 v1 rfl rfl)
 have k1:=h1
 have lt1:∀ x∈p1,x.block < W.heap.size:=by obtain⟨m,hm⟩:=k1;exact DataW.trod_lt m _ _ _ hm
 obtain⟨zs1,hwz1,hvr1⟩:=j5t h1
 obtain⟨Γ,back,hΓ,hB,hI,hall⟩:=hA
 obtain⟨k,h,clk,hc⟩:=hall zs0 zs1 hwz0 hwz1
 refine (j2j hΓ hB hI Tryz.func3 rfl (by decide) rfl hc (cargs:= #[.slice a0 len0 cap0, .slice a1 len1 cap1]) (by simp only[VRL];exact⟨_,_,rfl,hvr0,⟨_,_,rfl,hvr1,rfl⟩⟩)).mono fun e W' he=> ?_
 obtain⟨cv,G',I',rfl,hcv,bel⟩:=he
 simp only[VR] at hcv
 subst hcv
 exact⟨_,rfl,_,_,_,[],_,[],hW',trodAll_mk1 (shut_bool Tryz.underlying4 _),(trodAll_cons_mk (Below.trod k4h (by kernel_rfl) (of_decide_eq_true (by kernel_rfl)) k0 bel lt0) (trodAll_cons_mk (Below.trod k4h (by kernel_rfl) (of_decide_eq_true (by kernel_rfl)) k1 bel lt1) trodAll_mk0)),rfl,bel.frame _,fun h=>by cases h⟩
noncomputable def x1l (os:Os):World:=World.doorLaid Tryz.prog 4000 os
set_option maxRecDepth 100000 in
theorem v0w (os:Os):laidMetH Tryz.prog Rows.sliceDerivedRow.laid ((x1l os).forCall (fun _ _=>0) ⟨#[], #[.slice none 0 0, .slice none 0 0],[]⟩).memory:=
 laidMetH_of_parts3 (fuel:=8) (laidMet_of_run' 8 (by kernel_rfl) (by kernel_rfl)) (by kernel_rfl) (by kernel_rfl)
set_option maxRecDepth 100000 in
theorem reads (os:Os) {H:Type} (enc:TypeId×Value→H):∃ places,DataW.whole enc Tryz.prog ((x1l os).forCall (fun _ _=>0) ⟨#[], #[.slice none 0 0, .slice none 0 0],[]⟩).memory Tryz.f3.params.toList Rows.sliceDerivedSpec.vars false #[Value.slice none 0 0, .slice none 0 0].toList 8=some ([.nil, .nil],[],places):=
 ⟨[],by kernel_rfl⟩
set_option maxRecDepth 100000 in
theorem y4b (hA:x1k) (os:Os) (started:os.Started) (H:Type) (enc:TypeId×Value→H) (F:Stop.Interp):
  ReturnsInHanded {} Tryz.checked os 3 .any ((OpenSpec.ofChange Rows.sliceDerivedSpec).preRow enc Tryz.prog Tryz.f3 Rows.sliceDerivedRow.domain false Rows.sliceDerivedRow.laid) (((OpenSpec.ofChange Rows.sliceDerivedSpec).at F).post enc Tryz.prog Tryz.f3 false true false false):=by
 obtain⟨places,hx⟩:=reads os enc
 refine returnsInHanded_of_row (C:=Tryz.checked) (s:=OpenSpec.ofChange Rows.sliceDerivedSpec) v0t started (by kernel_rfl) Tryz.func3
  (witness_row_atRef (enc:=enc) (C:=Tryz.checked) false (x1l os) #[.slice none 0 0, .slice none 0 0] rfl (by kernel_rfl) (by kernel_rfl) (by kernel_rfl)
   (OpenSpec.preRow_of_cond 8 hx (by kernel_rfl) (fun k hk=>by cases hk) (by kernel_rfl) (v0w os))) ?_
 intro W base args ds gs before hval hW _ _ _ hL _ _
 exact v0v hA H enc W base args ds gs before hval hW
end Go.Proofs.YtkollgjffkdliaaGreatDoor.Am
