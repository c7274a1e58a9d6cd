/- From the abstract machine's answer to a row: what all laws of lists of whole numbers share -/
import Derived.WalkKit
import Derived.ProofKit
import Derived.OpenShut
import Derived.ChangeOld
import Derived.Below
import Derived.Deep.DeepHandedRow
import Derived.LaidMore
import Derived.Deep.DeepWitnessRowRef
import Derived.SevenTiedAt
import Derived.Test.YtkollgjffkdliaaGreatDoorCards
import Derived.Test.YtkollgjffkdliaaGreatDoorTie
import Derived.Test.YtkollgjffkdliaaGreatDoorK07
set_option linter.all false
namespace Go.Proofs.YtkollgjffkdliaaGreatDoor.Am
open Go Go.ChangeShapes Go.WideShapes Go.ChangeAt Go.RowKit
theorem v0t:ownKnob Tryz.prog.godebug=none:=by kernel_rfl
theorem k4h:laidOutB Tryz.prog=true:=by kernel_rfl
theorem x9k {P:Program} {f:Nat} {fn:Func} {c:Code} {cargs:Array Value} {w:World} {post:Value→World→Prop} (hf:P.funcs[f]? =some fn) (hb:fn.body=some c) (hn:fn.name≠ "runtime.NumGoroutine") (h:CallRes P f cargs w post):
  Calls P f cargs w fun e w'=>∃ cv,e= .returned cv∧post cv w':=by
 have:=h {dst:=some 0,op:= .move (.tmp 0),type:=0,pos:= "",after:= #[],guard:=none} {tmps:= #[undef],defers:=[]} (fun a w'=>post (a.tmps.getD 0 undef) w') (fun _ _ _=>False) (fun cv w' hp=>by simpa [Act.put] using hp)
 rw[z5r hf hb hn,Oper.upon_enter] at this
 refine this.mono fun e w' he=> ?_
 cases e with
 | returned v=>exact⟨v,rfl,by simpa [Act.put] using he⟩
 | panicked c=>exact he.elim
 | outgrown=>obtain⟨_,_,hq⟩:=he;exact hq.elim
def x1j (zs:List Int):AV:= .sl (zs.map fun n=> .int .i64 n) .no
def j5s (w:World):Imm:=fun b o=>w.cell? ⟨b,o,none⟩
set_option maxRecDepth 100000 in
theorem j2j {Γ:AProg} {back:Nat→Option Nat} (hΓ:ProgOk Tryz.prog back Γ) (hB:q1b Tryz.prog back) (hI:q0m Tryz.prog Γ) {f k:Nat} {fn:Func} {c:Code} {args:List AV} {v:AV} {h':List AObj} {clk:Nat} (hf:Tryz.prog.funcs[f]? =some fn) (hb:fn.body=some c) (hn:fn.name≠ "runtime.NumGoroutine") (hr:real f=f)
  (hc:z5w Γ k f args [] 0=some (v,h',clk)) {cargs:Array Value} {w:World} (ha:VRL (fun _=>none) (j5s w) args cargs.toList):
  Calls Tryz.prog f cargs w fun e w'=>∃ cv G' I',e= .returned cv∧VR G' I' v cv∧Below w.heap.size w w':=by
 have hcall:=q5w hΓ hB (j0h (by kernel_rfl)) hI k f args [] 0 v h' clk hc (fun _=>none) (j5s w) w cargs ha ⟨fun b o v hv=>hv,fun i o ho=>by simp at ho,fun i j oi oj b hi=>by simp at hi⟩ (fun _ _=>rfl)
 rw[hr] at hcall
 refine (x9k hf hb hn hcall).mono fun e w' he=> ?_
 obtain⟨cv,rfl,G',I',hv,hran,_⟩:=he
 exact⟨cv,G',I',rfl,hv,⟨hran.fr.os,hran.fr.tape,hran.fr.output,hran.fr.size,fun b hb=>hran.fr.kept b hb fun i o hi=>by simp at hi⟩⟩
theorem v0u {w:World} {G:Ghost} {b o:Nat} {zs:List Int} (hc:∀ i,i < zs.length→w.cell? ⟨b,o + i,none⟩=some (.int .i64 (zs.getD i 0))):RowI G (j5s w) (zs.map fun n=> .int .i64 n) b o 1:=by
 rw[z5u]
 intro k x hx
 rw[List.getElem?_map] at hx
 cases hz:zs[k]? with
 | none=>simp[hz] at hx
 | some z=>
   simp only[hz,Option.map_some,Option.some.injEq] at hx
   subst hx
   refine⟨rfl, ?_⟩
   have hk:=(List.getElem?_eq_some_iff.1 hz).1
   simp only[AV.cells,q0g,q2j,and_true]
   refine⟨.int .i64 z, ?_,by simp[VR]⟩
   have:=hc k hk
   simp only[List.getD,hz,Option.getD_some] at this
   rw[Nat.mul_one]
   exact this
theorem j5t {H:Type} {enc:TypeId×Value→H} {W:World} {d0:DataW H} {p0:List MemPlace} {a:Option Addr} {len cap:Nat} (h0:DataW.Trod enc Tryz.prog W 0 (fun _=>true) true 22 (.slice a len cap) d0 p0):∃ zs:List Int,(∀ n∈zs,(Lit.int .i64 n).wf=true)∧VR (fun _=>none) (j5s W) (x1j zs) (.slice a len cap):=by
 obtain⟨fuel,hf⟩:=h0
 rcases open_ints Tryz.underlying22 Tryz.underlying3 (by kernel_rfl) hf with ⟨hcs,_⟩ | ⟨x,l,c,zs,hcs,_,hl,hm,hz,_,hcell,hwz⟩
 ·simp[Value.cells] at hcs
  obtain⟨rfl,rfl,rfl⟩:=hcs
  refine⟨[],fun n hn=>by simp at hn, ?_⟩
  simp only[x1j,VR]
  exact⟨none,0,0,rfl,rfl,Nat.le_refl _,trivial, .inl rfl⟩
 ·simp[Value.cells] at hcs
  obtain⟨rfl,rfl,rfl⟩:=hcs
  refine⟨zs.take len,fun n hn=>hwz n (List.mem_of_mem_take hn), ?_⟩
  have hlen:zs.length=cap:=by simpa using hz
  simp only[x1j,VR]
  refine⟨some x,len,cap,rfl,by simp;omega,hl,trivial, ?_⟩
  by_cases h0:len=0
  ·exact .inl h0
  ·obtain⟨b,o,sp⟩:=x
   have hs:sp=none:=by
    have:=hcell 0 (by omega)
    cases sp with
    | none=>rfl
    | some i=>
      simp[World.cell?,Addr.add] at this
      split at this <;> simp at this
   subst hs
   refine .inr ⟨b,o,1,rfl,by omega,v0u fun i hi=> ?_⟩
   have hi':i < len:=by simp at hi;omega
   have:=hcell i (by omega)
   rw[Addr.add_lit] at this
   rw[this]
   simp[List.getD,hi']
end Go.Proofs.YtkollgjffkdliaaGreatDoor.Am
