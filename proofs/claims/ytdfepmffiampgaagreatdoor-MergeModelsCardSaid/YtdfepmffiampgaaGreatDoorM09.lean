/- Regions whose order is open: joined Functions that are told by tables The functions of this program that loops go over: slices Walking code of the abstract machine: what is left to do is data, so that -/
import Derived.RangeFuncCalls
import Derived.Maps.RangeWalk
import Derived.IntWalk
import Derived.LoopIn
import Derived.Test.YtdfepmffiampgaaGreatDoorProg
import Derived.Test.YtdfepmffiampgaaGreatDoorM08
open Nat renaming reduceBEq → z0,reduceAdd → z1,reduceLeDiff → z2,reduceSub → z3
set_option linter.all false
namespace Go.Proofs.YtdfepmffiampgaaGreatDoor.Am
open Go
set_option maxRecDepth 100000
section
variable {P:Program} {G:Ghost} {I:Imm} {h:List AObj} {w:World}
theorem q9p {ops:Array Oper} {listed:Array Bool} (hsz:listed.size=ops.size) {i:Nat}:i∈Region.ready .any ops listed↔i < ops.size∧listed.getD i false=false∧∃ o,ops[i]? =some o∧∀ e∈o.after.toList,Region.binds .any e=true→listed.getD e.on false=true:=by
 unfold Region.ready
 rw[List.mem_filter,List.mem_range]
 constructor
 ·rintro ⟨hi,h⟩
  simp only[Bool.and_eq_true,Bool.not_eq_true'] at h
  obtain⟨h1,h2⟩:=h
  refine⟨hi, ?_,ops[i],Array.getElem?_eq_getElem hi,fun e he hb=> ?_⟩
  ·rw[Array.getD_eq_getD_getElem?,Array.getElem?_eq_getElem (by omega)] at h1⊢
   exact h1
  ·rw[Array.getElem?_eq_getElem hi] at h2
   simp only[Option.map_some,Option.getD_some] at h2
   have h3:=Array.all_eq_true'.1 h2 e (by simpa using he)
   rw[hb] at h3
   simpa using h3
 ·rintro ⟨hi,h1,o,ho,h2⟩
  refine⟨hi, ?_⟩
  simp only[Bool.and_eq_true,Bool.not_eq_true']
  constructor
  ·rw[Array.getD_eq_getD_getElem?,Array.getElem?_eq_getElem (by omega)] at h1⊢
   exact h1
  ·rw[ho]
   simp only[Option.map_some,Option.getD_some]
   refine Array.all_eq_true'.2 fun e he=> ?_
   cases hb:Region.binds .any e with
   | false=>rfl
   | true=>simpa using h2 e (by simpa using he) hb
theorem j3q {listed:Array Bool} {i j:Nat} (hi:i < listed.size):(listed.setIfInBounds i true).getD j false=if j=i then true else listed.getD j false:=by
 rw[Array.getD_eq_getD_getElem?,Array.getD_eq_getD_getElem?,Array.getElem?_setIfInBounds]
 by_cases h:i=j
 ·subst h
  simp[hi]
 ·simp[h,Ne.symm h]
theorem Ran.drew {base clk:Nat} {G':Ghost} {I':Imm} {h':List AObj} {w w':World} {d:Nat} (r:Ran base clk G I h {w with drawn:=d} G' I' h' w'):Ran base clk G I h w G' I' h' w':=
 ⟨r.rel,r.gle,r.ile,r.slots,r.own,⟨r.fr.os,r.fr.tape,r.fr.output,r.fr.size,r.fr.kept⟩,r.ifr⟩
theorem Rel.drew {w:World} {d:Nat} (r:Rel G I h w):Rel G I h {w with drawn:=d}:=r.world fun _ _ hx=>hx
theorem w4u {R:Nat→ACode→St→Option (AEx×St)} {Γ:AProg} {back:Nat→Option Nat} {nt B base clk0 N:Nat} {mu:Nat→Bool} {al:Nat→Nat} {ops:Array Oper} {asx:List AOper} {fs:Nat→List Nat×List Nat}
  (hC:q4x P (z0q R Γ)) (hB:q1p P back) (m:MadeAll P back nt mu al ops asx) (hedge:q6c 0 ops.toList=true)
  (hpair:∀ i j,i < j→j < ops.size→((Region.before ops).toList.getD j 0).testBit i=false→PairOk asx fs N i j):
  ∀ (fuel:Nat) (l:List Nat) (listed:Array Bool) (s s':St) (G:Ghost) (I:Imm) (w:World) (a:Act),l.length≤fuel→listed.size=ops.size→l.Pairwise (· < ·)→(∀ i,i∈l↔i < ops.size∧listed.getD i false=false)→
    (∀ j,listed.getD j false=true→∀ i,((Region.before ops).toList.getD j 0).testBit i=true→listed.getD i false=true)→
    Runs (z0q R Γ) Γ base clk0 asx fs l s s'→N≤s.h.length→Live nt B G I s a w→w4e (fun g=>∃ k∈l,g=clk0 + k) G s.clk→clk0 + ops.size≤s.clk→base≤s.h.length→
    ∀ (r:Option Nat) (q:Nat) (Q:Exit→Act→World→Prop),Came base nt B clk0 G I s w s' (Q .normal)→wpAnyIn (q7g r) q P .any ops Q fuel listed a w:=by
 intro fuel
 induction fuel with
 | zero=>
   intro l listed s s' G I w a hlen hsz hord hmem hdown hruns hN hl hK hclk hb r q Q hQ
   have:l=[]:=List.length_eq_zero_iff.1 (by omega)
   subst this
   cases hruns
   refine⟨List.eq_nil_iff_forall_not_mem.2 fun i hi=> ?_,hQ a w G I hl (Ran.refl hl.rel) (fun g hg=>hK g (.inr hg)) (Nat.le_refl _) (Nat.le_refl _)⟩
   have:=(q9p hsz).1 hi
   have:=(hmem i).2 ⟨this.1,this.2.1⟩
   simp at this
 | succ fuel ih=>
   intro l listed s s' G I w a hlen hsz hord hmem hdown hruns hN hl hK hclk hb r q Q hQ
   refine⟨fun hr0=> ?_,fun i hi=> ?_⟩
   ·have hnil:l=[]:=by
     cases l with
     | nil=>rfl
     | cons k l=>
       exfalso
       have hk:=(hmem k).1 List.mem_cons_self
       have:k∈Region.ready .any ops listed:=by
        refine (q9p hsz).2 ⟨hk.1,hk.2,ops[k],Array.getElem?_eq_getElem hk.1,fun e he hbd=> ?_⟩
        have hlt:=q7i hedge k ops[k] (by simp) e he hbd
        cases hx:listed.getD e.on false with
        | true=>rfl
        | false=>
          exfalso
          have hin:=(hmem e.on).2 ⟨by omega,hx⟩
          rcases List.mem_cons.1 hin with heq | hin
          ·omega
          ·have:=List.rel_of_pairwise_cons hord hin
           omega
       rw[hr0] at this
       simp at this
    subst hnil
    cases hruns
    exact hQ a w G I hl (Ran.refl hl.rel) (fun g hg=>hK g (.inr hg)) (Nat.le_refl _) (Nat.le_refl _)
   ·obtain⟨hi1,hi2,o,ho,hedges⟩:=(q9p hsz).1 hi
    have hil:=(hmem i).2 ⟨hi1,hi2⟩
    obtain⟨l1,l2,rfl⟩:=List.append_of_mem hil
    have hbits:∀ k,((Region.before ops).toList.getD i 0).testBit k=true→listed.getD k false=true:=fun k hk=>by
     obtain⟨o',ho',e,he,hbd,h3⟩:=j1a hk
     rw[ho] at ho'
     simp only[Option.some.injEq] at ho'
     subst ho'
     have hon:=hedges e he hbd
     rcases h3 with rfl | h3
     ·exact hon
     ·exact hdown e.on hon k h3
    have hlow:∀ k∈l1,k < i:=fun k hk=>(List.pairwise_append.1 hord).2.2 k hk i List.mem_cons_self
    have hb1:=hruns.bubble (fun k hk=>hpair k i (hlow k hk) hi1 (by
     cases hx:((Region.before ops).toList.getD i 0).testBit k with
     | false=>rfl
     | true=>
       have h1:=hbits k hx
       have h2:=((hmem k).1 (List.mem_append_left _ hk)).2
       rw[h1] at h2
       simp at h2)) hN
    cases hb1 with
    | cons hao hst hft hrest=>
      rename_i ao s1
      obtain⟨ao',n,hao',hm⟩:=m.made i o ho
      rw[hao] at hao'
      simp only[Option.some.injEq] at hao'
      subst hao'
      have hnd:l1++i::l2=l1++i::l2:=rfl
      have hne:∀ k∈l1++l2,k≠i:=fun k hk he=>by
       subst he
       rcases List.mem_append.1 hk with hk | hk
       ·exact Nat.lt_irrefl _ (hlow k hk)
       ·have:=(List.pairwise_append.1 hord).2.1
        exact Nat.lt_irrefl _ (List.rel_of_pairwise_cons this hk)
      have hmem':∀ k,k∈l1++l2↔k∈l1++i::l2∧k≠i:=fun k=>by
       constructor
       ·intro hk
        refine⟨?_,hne k hk⟩
        simp only[List.mem_append,List.mem_cons] at hk⊢
        rcases hk with hk | hk
        ·exact .inl hk
        ·exact .inr (.inr hk)
       ·rintro ⟨hk,hki⟩
        simp only[List.mem_append,List.mem_cons] at hk⊢
        rcases hk with hk | hk | hk
        ·exact .inl hk
        ·exact absurd hk hki
        ·exact .inr hk
      have hstep:=k0d (r:=r) (k:=q) (Q:=Q) (K:=wpAnyIn (q7g r) q P .any ops Q fuel (listed.setIfInBounds i true)) (lo:=clk0) (gen:=clk0 + i) (U:=fun g=>∃ k∈l1++i::l2,g=clk0 + k) hC hB hm hl
       (fun j t hj=>Nat.lt_of_lt_of_le (m.dst j t hj) hl.size) hst ⟨i,hil,rfl⟩ (fun g hg=>by
        obtain⟨k,hk,rfl⟩:=hg
        have:=((hmem k).1 hk).1
        omega) hK (by omega) (by omega) hb (fun a1 w1 G1 I1 hl1 hran hK1 hc1 hlen1 hsz1=>by
        refine ih (l1++l2) (listed.setIfInBounds i true) s1 s' G1 I1 w1 a1 ?_ (by rw[Array.size_setIfInBounds];exact hsz) ?_ (fun k=> ?_) (fun j hj k hk=> ?_) hrest (by omega) hl1 (fun g hg=>hK1 g ?_) (by omega) (by omega) r q Q fun a2 w2 G2 I2 hl2 hran2 hf2 hc2 hlen2=> ?_
        ·simp only[List.length_append,List.length_cons] at hlen⊢
         omega
        ·refine List.Pairwise.sublist ?_ hord
         exact List.Sublist.append_left (List.sublist_cons_self _ _) _
        ·rw[hmem' k,hmem k,j3q (by omega)]
         by_cases hki:k=i
         ·simp[hki]
         ·simp[hki]
        ·rw[j3q (by omega)] at hj⊢
         split
         ·rfl
         ·split at hj
          ·rename_i hji
           subst hji
           exact hbits k hk
          ·exact hdown j hj k hk
        ·rcases hg with ⟨k,hk,rfl⟩ | hg
         ·refine .inl ⟨⟨k,((hmem' k).1 hk).1,rfl⟩, ?_⟩
          have:=hne k hk
          omega
         ·exact .inr hg
        ·exact hQ a2 w2 G2 I2 hl2 (hran.trans hran2 (Nat.le_refl _) (Nat.le_refl _)) hf2 (by omega) (by omega))
      unfold wpOpIn
      rw[ho]
      simp only
      split
      ·rename_i hw
       rw[if_pos hw] at hstep
       exact hstep
      ·rename_i hw
       rw[if_neg hw] at hstep
       exact hstep
theorem j1b {back:Nat→Option Nat} (hm:P.follows .mixedOrders=true):x8c P back:=by
 intro Γ k nt B base mu al id ops asx hC hB m hind hcalls hedge s s' G I w a hr hl hf hb r q Q hQ
 refine wpIn_region_any hm ?_
 have hlen:=m.len
 have start:∃ fs:Nat→List Nat×List Nat,Runs (z0q (z4l Γ k) Γ) Γ base s.clk asx fs (List.range' 0 asx.length) {s with clk:=s.clk + asx.length} s'∧
   ∀ i j,i < j→j < ops.size→((Region.before ops).toList.getD j 0).testBit i=false→(i,j)∈q1u (Region.before ops).toList asx 0 asx→Apart (fs i) (fs j)∧(z0s asx i=true∨z0s asx j=true→(∀ x∈(fs i).1++(fs i).2,x < s.h.length)∧(∀ x∈(fs j).1++(fs j).2,x < s.h.length)):=by
  unfold region at hr
  split at hr
  ·rename_i hps
   obtain⟨l,hl'⟩:=q3i (Γ:=Γ) hr
   refine⟨fun i=>l.getD i ([],[]),(q1z (j:=0) rfl (by simpa using hl') fun i f hi=>by simp[List.getD,hi]).1,fun i j _ _ _ hmem=> ?_⟩
   rw[hps] at hmem
   simp at hmem
  ·split at hr
   ·rename_i s1 l hl'
    split at hr
    ·rename_i hchk
     simp only[Option.some.injEq] at hr
     subst hr
     obtain⟨hR,hL⟩:=q1z (fs:=fun i=>l.getD i ([],[])) (j:=0) rfl (by simpa using hl') fun i f hi=>by simp[List.getD,hi]
     refine⟨fun i=>l.getD i ([],[]),hR,fun i j hij hj _ hmem=> ?_⟩
     have hc:=List.all_eq_true.1 hchk (i,j) hmem
     simp only[Bool.and_eq_true,Bool.or_eq_true,Bool.not_eq_true',Bool.or_eq_false_iff] at hc
     refine⟨j7f hc.1,fun hcall=> ?_⟩
     rcases hc.2 with h1 | h1
     ·rcases hcall with h2 | h2
      ·rw[h1.1] at h2;simp at h2
      ·rw[h1.2] at h2;simp at h2
     ·refine⟨fun x hx=> ?_,fun x hx=> ?_⟩
      ·simpa using List.all_eq_true.1 h1 x (List.mem_append_left _ hx)
      ·simpa using List.all_eq_true.1 h1 x (List.mem_append_right _ hx)
    ·simp at hr
   ·simp at hr
 obtain⟨fs,hruns,hap⟩:=start
 have hat:∀ i,i < ops.size→∃ o,asx[i]? =some o:=fun i hi=>⟨asx[i],List.getElem?_eq_getElem (by omega)⟩
 have hfoot:∀ i o,i < ops.size→asx[i]? =some o→∃ s1 s2,fs i=footOfK Γ base o s1 s2:=fun i o hi ho=>by
  obtain⟨o',s1,s2,ho',h⟩:=hruns.foot i (by simp only[List.mem_range'_1];omega)
  rw[ho] at ho'
  simp only[Option.some.injEq] at ho'
  subst ho'
  exact⟨s1,s2,h⟩
 have hpair:∀ i j,i < j→j < ops.size→((Region.before ops).toList.getD j 0).testBit i=false→PairOk asx fs s.h.length i j:=by
  intro i j hij hj hbit
  obtain⟨x,hx⟩:=hat i (by omega)
  obtain⟨y,hy⟩:=hat j hj
  obtain⟨x1,x2,hfx⟩:=hfoot i x (by omega) hx
  obtain⟨y1,y2,hfy⟩:=hfoot j y hj hy
  have hI:indep x y=true:=by
   have:=q7k hind (q:=j) (o:=y) hy
   rw[Nat.zero_add] at this
   exact q7j this (p:=i) hx (by omega) (by rw[Nat.zero_add];exact hbit)
  have mk:(x.op.isCall=false∨y.op.isCall=false)→Apart (fs i) (fs j)→(y.op.isCall=true→∀ z∈(fs i).1++(fs i).2,z < s.h.length)→(x.op.isCall=true→∀ z∈(fs j).1++(fs j).2,z < s.h.length)→PairOk asx fs s.h.length i j:=fun h1 h2 h3 h4=>by
   refine⟨fun a b ha hb=> ?_,fun a b ha hb=> ?_,h2,fun b hb=> ?_,fun a ha=> ?_⟩
   ·rw[hx] at ha;rw[hy] at hb
    simp only[Option.some.injEq] at ha hb
    subst ha hb
    exact hI
   ·rw[hx] at ha;rw[hy] at hb
    simp only[Option.some.injEq] at ha hb
    subst ha hb
    exact h1
   ·rw[hy] at hb
    simp only[Option.some.injEq] at hb
    subst hb
    exact h3
   ·rw[hx] at ha
    simp only[Option.some.injEq] at ha
    subst ha
    exact h4
  by_cases c1:z4a x.op=0
  ·have he:fs i=([],[]):=by rw[hfx];exact q5d c1
   refine mk (.inl ?_) (by rw[he];exact⟨fun s hs=>by simp at hs,fun s hs=>by simp at hs,fun s _=>by simp⟩) (fun _ z hz=>by rw[he] at hz;simp at hz) (fun hc=>by rw[z5w hc] at c1;simp at c1)
   cases hc:x.op.isCall with
   | false=>rfl
   | true=>rw[z5w hc] at c1;simp at c1
  by_cases c2:z4a y.op=0
  ·have he:fs j=([],[]):=by rw[hfy];exact q5d c2
   refine mk (.inr ?_) (by rw[he];exact⟨fun s _=>by simp,fun s _=>by simp,fun s hs=>by simp at hs⟩) (fun hc=>by rw[z5w hc] at c2;simp at c2) (fun _ z hz=>by rw[he] at hz;simp at hz)
   cases hc:y.op.isCall with
   | false=>rfl
   | true=>rw[z5w hc] at c2;simp at c2
  by_cases c3:z4a x.op=2∨z4a y.op=2
  ·have hmem:(i,j)∈q1u (Region.before ops).toList asx 0 asx:=by
    refine q9o (q:=j) (o:=y) hy ?_
    rw[Nat.zero_add]
    have:=q9n (bj:=(Region.before ops).toList.getD j 0) (j:=j) (cj:=z4a y.op) (os:=asx) (i0:=0) (p:=i) (o:=x) hx (by omega) (by rw[Nat.zero_add];exact hbit) c1 c2 c3
    rwa [Nat.zero_add] at this
   obtain⟨h1,h2⟩:=hap i j hij hj hbit hmem
   have hci:x.op.isCall=true→z0s asx i=true:=fun hc=>by simp[z0s,hx,hc]
   have hcj:y.op.isCall=true→z0s asx j=true:=fun hc=>by simp[z0s,hy,hc]
   refine mk ?_ h1 (fun hc=>(h2 (.inr (hcj hc))).1) (fun hc=>(h2 (.inl (hci hc))).2)
   have:=List.all_eq_true.1 hcalls (i,j) hmem
   simp only[hx,hy,Option.map_some,Option.getD_some,Bool.not_eq_true',Bool.and_eq_false_iff] at this
   exact this
  ·have e1:z4a x.op=1:=by rcases x2w x.op with h | h | h <;> omega
   have e2:z4a y.op=1:=by rcases x2w y.op with h | h | h <;> omega
   have g1:(fs i).2=[]:=by rw[hfx];exact q5e e1
   have g2:(fs j).2=[]:=by rw[hfy];exact q5e e2
   refine mk (.inl ?_) ⟨fun s hs=>by rw[g1] at hs;simp at hs,fun s hs=>by rw[g1] at hs;simp at hs,fun s hs=>by rw[g2] at hs;simp at hs⟩ (fun hc=>by rw[z5w hc] at e2;simp at e2) (fun hc=>by rw[z5w hc] at e1;simp at e1)
   cases hc:x.op.isCall with
   | false=>rfl
   | true=>rw[z5w hc] at e1;simp at e1
 have hl':Live nt B G I {s with clk:=s.clk + asx.length} a {w with drawn:=w.drawn + 1}:=⟨hl.bnd,hl.dfr,hl.size,hl.tmps,hl.rel.drew⟩
 refine w4u (N:=s.h.length) (clk0:=s.clk) hC hB m hedge hpair ops.size (List.range' 0 asx.length) (Array.replicate ops.size false) _ s' G I _ a (by simp[hlen]) (by simp) ?_ (fun i=> ?_) (fun j hj=> ?_) hruns (Nat.le_refl _) hl' (fun g hg=>hf g ?_) (by
   show s.clk + ops.size≤s.clk + asx.length
   omega) hb r q Q fun a' w' G' I' h1 h2 h3 h4 h5=>hQ a' w' G' I' h1 h2.drew h3 (by
   have:s.clk + asx.length≤s'.clk:=h4
   omega) h5
 ·exact List.pairwise_lt_range'
 ·rw[List.mem_range'_1,hlen]
  have:(Array.replicate ops.size false).getD i false=false:=by
   rw[Array.getD_eq_getD_getElem?,Array.getElem?_replicate]
   split <;> rfl
  simp[this]
 ·have:(Array.replicate ops.size false).getD j false=false:=by
   rw[Array.getD_eq_getD_getElem?,Array.getElem?_replicate]
   split <;> rfl
  rw[this] at hj
  simp at hj
 ·rcases hg with ⟨k,_,rfl⟩ | hg
  ·omega
  ·have:s.clk + asx.length≤g:=hg
   omega
end
theorem q3c {G G':Ghost}:j0v G G' 0:=by
 intro g i h1 h2
 exact absurd h2 (Nat.not_lt_zero _)
def told (P:Program) (f:Nat) (sem:List AV→Option AV):Prop:=∀ az v,sem az=some v→∀ G I w (cargs:Array Value),VRL G I az cargs.toList→(∀ b o v,I b o=some v→w.cell? ⟨b,o,none⟩=some v)→(∃ clk,Fresh G clk)→CallRes P (real f) cargs w (ExtPost G I w v)
def chk (Γ:AProg) (k f:Nat) (p:List AV×AV):Bool:=(idsL p.1).isEmpty && p.2.ids.isEmpty && match z5f Γ k f p.1 [] 0 with
 | some (w,_,_)=>w.beq p.2
 | none=>false
theorem k6j {P:Program} {Γ:AProg} {back:Nat→Option Nat} (hΓ:ProgOk P back Γ) (hB:q1p P back) (hD:x8c P back) (hR:q0y P Γ) {f:Nat} {tab:List (List AV×AV)} (h:∀ p∈tab,∃ k,chk Γ k f p=true):told P f (z7w tab):=by
 intro az v hv G I w cargs hargs himm _
 unfold z7w at hv
 rw[Option.map_eq_some_iff] at hv
 obtain⟨p,hp,rfl⟩:=hv
 have hbeq:=List.find?_some hp
 have haz:p.1=az:=z6u hbeq
 obtain⟨k,hk⟩:=h p (List.mem_of_find?_eq_some hp)
 simp only[chk,Bool.and_eq_true,List.isEmpty_iff] at hk
 obtain⟨⟨h1,h2⟩,h3⟩:=hk
 split at h3
 ·rename_i v' h' clk hc
  have hvv:=beq_sound h3
  subst hvv
  subst haz
  have hargs0:VRL (fun _=>none) I p.1 cargs.toList:=VRL.keep (n:=0) q3c (by rw[h1];simp) hargs
  intro o a next Q hn
  refine (q6e hΓ hB hD hR k f p.1 [] 0 p.2 h' clk hc (fun _=>none) I w cargs hargs0 ⟨himm,fun i o ho=>by simp at ho,fun i j oi oj b hi=>by simp at hi⟩ (fun _ _=>rfl)) o a next Q fun cv w' he=>hn cv w' ?_
  obtain⟨G',I',hv',hran,_⟩:=he
  refine⟨I',hran.ile,VR.keep (n:=0) q3c (by rw[h2];simp) hv',fun b y hy=> ?_,hran.fr.os,hran.fr.tape,hran.fr.output,hran.fr.size,fun b o v hv=> ?_⟩
  ·have hb:b < w.heap.size:=(Array.getElem?_eq_some_iff.1 hy).1
   rw[hran.fr.kept b hb fun i o hi=>by simp at hi]
   exact hy
  ·rcases Nat.lt_or_ge b w.heap.size with hb | hb
   ·exact .inl (hran.ifr b hb (fun i o hi=>by simp at hi) o v hv)
   ·exact .inr ⟨hb,hran.rel.imm b o v hv⟩
 ·cases h3
end Go.Proofs.YtdfepmffiampgaaGreatDoor.Am
namespace Go.Proofs.YtdfepmffiampgaaGreatDoor
open Go Go.RowKit
namespace Am
set_option maxRecDepth 100000 in
set_option maxHeartbeats 1000000 in
theorem x8k (F:Fence) (m:Nat) (hF:F.fn 235) (hro:F.round=none) (hm:1≤m) (l b n c:Nat) (A:Option Addr) (J:Nat→World→Prop) (W:World) (hn:n < 2 ^ 48)
  (hcap:∀ i W,J i W→W.cell? ⟨b,0,none⟩=some (.slice A n c))
  (hround:∀ i W,i < n→J (i + 1) W→∃ bA oA vx,A=some ⟨bA,oA,none⟩∧n≤c∧W.cell? ⟨bA,oA + i,none⟩=some vx∧YieldAt F (m - 1) Tryz.prog l #[.int .i64 i,vx] W fun e W'=>e= .returned (.bool true)∧J i W')
  (h0:J n W):CallsIn F m Tryz.prog 235 #[.func (.yield l) #[] #[], .pointer (some ⟨b,0,none⟩)] W fun e W'=>(∃ v,e= .returned v)∧J 0 W':=by
 have hc:=hcap _ _ h0
 refine callsIn_of_wp Tryz.func235 rfl hF ?_ hro
 simp only[Tryz.ntmps235,List.size_toArray,List.length_cons,List.length_nil,z1,z3,Array.replicate_succ,Array.replicate_zero,List.push_toArray,List.append_toArray,List.nil_append,List.cons_append]
 have hw1:IntKind.i64.wrap ((n:Int) - 1)=(n:Int) - 1:=IntWalk.i64_in _ (by omega)
 gi_wp2
 gi_loopw [3] (fun v wr=>∃ k:Nat,k≤n∧v= .int .i64 ((k:Int) - 1)∧J k wr) (fun v _=>(intOf v + 1).toNat)
 case atStart=>exact⟨n,Nat.le_refl _,rfl,h0⟩
 case round=>
  obtain⟨k,hk,rfl,hJ⟩:=hrel
  cases k with
  | zero=>
    gi_wp2
    go_end0
    exact⟨⟨_,rfl⟩,hJ⟩
  | succ i=>
    have he:(((i + 1:Nat):Int) - 1)=(i:Int):=by omega
    rw[he]
    have hw2:IntKind.i64.wrap ((i:Int) - 1)=(i:Int) - 1:=IntWalk.i64_in _ (by omega)
    obtain⟨bA,oA,vx,rfl,hnc,hcell,fn,tmps,assign,body,hy,hR⟩:=hround i _ (by omega) hJ
    have hc2:=hcap _ _ hJ
    have hlt:(i:Int) < (n:Int):=by omega
    clear he hround
    gi_wp2
    refine hR.mono ?_
    rintro e W3 ⟨rfl,hJ3⟩
    gi_wp2
    go_roundw
    case rel=>exact⟨i,by omega,rfl,hJ3⟩
    case measure=>simp[intOf]
theorem k0p:k0f Tryz.prog 235:=fun q l b n c A J W hn hcap _ hround h0=>
 x8k (q7g none) (q + 1) trivial rfl (Nat.le_add_left 1 q) l b n c A J W hn hcap hround h0
theorem k0q {G:Ghost} {I:Imm} {w:World} {x:AV} {cx:Value} (hr:(z7g x).isSome=true) (hx:VR G I x cx) (himm:∀ b o v,I b o=some v→w.cell? ⟨b,o,none⟩=some v):CallRes Tryz.prog 192 #[cx] w fun cv w'=>∃ I',ILe I I'∧VR G I' (.bwd 235 x) cv∧(∀ (b:Nat) (y:Obj),w.heap[b]? =some y→w'.heap[b]? =some y)∧w'.os=w.os∧w'.tape=w.tape∧w'.output=w.output∧w.heap.size≤w'.heap.size∧
   ∀ b o v,I' b o=some v→I b o=some v∨(w.heap.size≤b∧w'.cell? ⟨b,o,none⟩=some v):=by
 have hlo:∀ b o v,I b o=some v→b < w.heap.size:=fun b o v hv=>by
  have hc:=himm b o v hv
  unfold World.cell? at hc
  simp only at hc
  apply Nat.lt_of_not_le
  intro hle
  rw[Array.getElem?_eq_none hle] at hc
  simp at hc
 obtain⟨A,n,c,rfl⟩:∃ A n c,cx= .slice A n c:=by
  cases x <;> simp[z7g] at hr
  case sl xs t=>
   simp only[VR] at hx
   obtain⟨A,n',c,rfl,_⟩:=hx
   exact⟨A,n',c,rfl⟩
  case ob s g off l=>
   simp only[VR] at hx
   obtain⟨i,A,c,_,_,rfl,_⟩:=hx
   exact⟨A,_,c,rfl⟩
 intro o a next Q hn
 rw[z6g Tryz.func192 rfl (by decide),Oper.upon_enter]
 have hc:Calls Tryz.prog 192 #[.slice A n c] w fun e w'=>e= .returned (.func (.func 235) #[] #[.pointer (some ⟨w.heap.size,0,none⟩)])∧w'=w.alloc (.cells #[.slice A n c] 22):=by
  go_enter Tryz.func192,Tryz.ntmps192
  go_wp2
  go_ret
  exact⟨rfl,rfl⟩
 refine hc.mono ?_
 rintro e w' ⟨rfl,rfl⟩
 refine hn _ _ ⟨fun b o=>if b=w.heap.size∧o=0 then some (.slice A n c) else I b o,fun b o v hv=> ?_, ?_,fun b y hy=> ?_,rfl,rfl,rfl,by simp,fun b o v hv=> ?_⟩
 ·have:=hlo b o v hv
  show (if b=w.heap.size∧o=0 then some (Value.slice A n c) else I b o)=some v
  rw[if_neg (by omega)]
  exact hv
 ·simp only[VR]
  refine⟨w.heap.size, .slice A n c,rfl,by simp,VR.mono (GLe.refl _) (fun b o v hv=> ?_) hx⟩
  have:=hlo b o v hv
  show (if b=w.heap.size∧o=0 then some (Value.slice A n c) else I b o)=some v
  rw[if_neg (by omega)]
  exact hv
 ·rw[RowKit.Below.heap_alloc _ _ _ (Array.getElem?_eq_some_iff.1 hy).1]
  exact hy
 ·replace hv:(if b=w.heap.size∧o=0 then some (Value.slice A n c) else I b o)=some v:=hv
  split at hv
  ·rename_i hbo
   obtain⟨rfl,rfl⟩:=hbo
   simp only[Option.some.injEq] at hv
   subst hv
   refine .inr ⟨Nat.le_refl _, ?_⟩
   unfold World.cell?
   simp only[World.alloc_heap_new]
   rfl
  ·exact .inl hv
end Am
end Go.Proofs.YtdfepmffiampgaaGreatDoor
namespace Go.Proofs.YtdfepmffiampgaaGreatDoor.Am
open Go
set_option maxRecDepth 100000
section
abbrev Run:=Nat→ACode→St→Option (AEx×St)
def v7f (R R':Run):Prop:=∀ b c s r,R b c s=some r→R' b c s=some r
def x2x (C C':Caller):Prop:=∀ f asx h c r,C f asx h c=some r→C' f asx h c=some r
theorem q1b {R R':Run} (hR:v7f R R') {Γ:AProg}:x2x (z0q R Γ) (z0q R' Γ):=by
 intro f args h clk x hc
 unfold z0q at hc⊢
 split at hc
 ·exact hc
 ·split at hc
  ·cases hc
  ·rename_i af haf
   split at hc
   ·cases hc
   ·rename_i asx has
    dsimp only at hc⊢
    generalize hE:R h.length af.body ⟨z9z asx,maskFrom (reach h (h.length + 1) [] (idsL asx)) 0 (freezeAll h (z0p af.byref 0 args))++List.replicate af.nslots .dead,clk⟩=E at hc
    cases E with
    | none=>cases hc
    | some r=>
      rw[hR _ _ _ _ hE]
      exact hc
theorem x2y {C C':Caller} (hC:x2x C C') {base g:Nat} {o:AOper} {s r:St} (h:stepA C base g o s=some r):stepA C' base g o s=some r:=by
 obtain⟨dst,op,guard⟩:=o
 unfold stepA at h⊢
 split at h
 ·rename_i hw
  simp only at h
  cases op
  case call f args=>
   simp only at h⊢
   split at h
   ·rename_i v h' c hc
    rw[hC _ _ _ _ _ hc]
    exact h
   ·cases h
  case callv x args=>
   simp only at h⊢
   split at h
   ·split at h
    ·rename_i v h' c hc
     rw[hC _ _ _ _ _ hc]
     exact h
    ·cases h
   ·cases h
  all_goals exact h
 ·rename_i hw
  exact h
 ·cases h
theorem q9q {C C':Caller} (hC:x2x C C') {base:Nat}:∀ {os:List AOper} {g:Nat} {s r:St},z8s C base g os s=some r→z8s C' base g os s=some r
 | [],_,_,_,h=>h
 | o::os,g,s,r,h=>by
   simp only[z8s] at h⊢
   split at h
   ·rename_i s1 h1
    rw[x2y hC h1]
    exact q9q hC h
   ·cases h
theorem q2a {C C':Caller} (hC:x2x C C') {Γ:AProg} {base:Nat}:∀ {os:List AOper} {g:Nat} {s:St} {r},z3o C Γ base g os s=some r→z3o C' Γ base g os s=some r
 | [],_,_,_,h=>h
 | o::os,g,s,r,h=>by
   simp only[z3o] at h⊢
   split at h
   ·rename_i s1 h1
    rw[x2y hC h1]
    simp only[Option.map_eq_some_iff] at h⊢
    obtain⟨a,h2,h3⟩:=h
    exact⟨a,q2a hC h2,h3⟩
   ·cases h
theorem j1c {C C':Caller} (hC:x2x C C') {Γ:AProg} {base n:Nat} {ops:List AOper} {ps:List (Nat×Nat)} {s r:St} (h:region C Γ base n ops ps s=some r):region C' Γ base n ops ps s=some r:=by
 unfold region at h⊢
 cases ps with
 | nil=>exact q9q hC h
 | cons p ps=>
   simp only at h⊢
   split at h
   ·rename_i s1 fs h1
    rw[q2a hC h1]
    exact h
   ·cases h
theorem q3w {R R':St→Option (AEx×St)} (hR:∀ s r,R s=some r→R' s=some r) {v:AV} {ts:Tmps} {p q:Nat}:∀ {n:Nat} {m r},q1t R v ts p q n m=some r→q1t R' v ts p q n m=some r
 | 0,_,_,h=>h
 | n + 1,m,r,h=>by
   simp only[q1t] at h⊢
   split at h
   ·rename_i x hx
    split at h
    ·rename_i s hs
     rw[hR _ _ hs]
     exact q3w hR h
    ·cases h
   ·cases h
theorem k0r {Γ:AProg}:∀ k,v7f (z4l Γ k) (z4l Γ (k + 1)):=by
 intro k
 induction k with
 | zero=>intro b c s r h;cases h
 | succ k ih=>
   intro b c s r h
   cases c with
   | skip=>exact h
   | exit i=>exact h
   | ret=>exact h
   | bad=>exact h
   | region n ops ps=>
     rw[z4l] at h⊢
     simp only[Option.map_eq_some_iff] at h⊢
     obtain⟨a,h1,h2⟩:=h
     exact⟨a,j1c (q1b ih) h1,h2⟩
   | seq x y=>
     rw[z4l] at h⊢
     split at h
     ·rename_i s1 h1
      rw[ih _ _ _ _ h1]
      exact ih _ _ _ _ h
     ·rename_i hn
      cases hx:z4l Γ k b x s with
      | none=>rw[hx] at h;cases h
      | some q=>
        rw[ih _ _ _ _ hx]
        rw[hx] at h
        split
        ·rename_i s1 e1
         injection e1 with e1
         exact absurd (e1 ▸ hx) (hn s1)
        ·exact h
   | cond x y z=>
     rw[z4l] at h⊢
     split at h
     ·exact ih _ _ _ _ h
     ·cases h
   | block i x=>
     rw[z4l] at h⊢
     cases hx:z4l Γ k b x s with
     | none=>rw[hx] at h;cases h
     | some q=>
       rw[ih _ _ _ _ hx]
       rw[hx] at h
       exact h
   | loop x=>
     rw[z4l] at h⊢
     split at h
     ·rename_i s1 h1
      rw[ih _ _ _ _ h1]
      exact ih _ _ _ _ h
     ·rename_i hn
      cases hx:z4l Γ k b x s with
      | none=>rw[hx] at h;cases h
      | some q=>
        rw[ih _ _ _ _ hx]
        rw[hx] at h
        split
        ·rename_i s1 e1
         injection e1 with e1
         exact absurd (e1 ▸ hx) (hn s1)
        ·exact h
   | rangeB x p q a y=>
     rw[z4l] at h⊢
     split at h
     ·split at h
      ·split at h
       ·rename_i f v _ n hn hi
        simp only[hi,if_true]
        simp only[Option.map_eq_some_iff] at h⊢
        obtain⟨m,h1,h2⟩:=h
        refine⟨m,q3w ?_ h1,h2⟩
        intro s r hr
        split at hr
        ·rename_i s1 hs
         rw[ih _ _ _ _ hs]
         exact ih _ _ _ _ hr
        ·rename_i hn2
         cases hx:z4l Γ k b a s with
         | none=>rw[hx] at hr;cases hr
         | some q=>
           rw[ih _ _ _ _ hx]
           rw[hx] at hr
           split
           ·rename_i s1 e1
            injection e1 with e1
            exact absurd (e1 ▸ hx) (hn2 s1)
           ·exact hr
       ·cases h
      ·cases h
     ·cases h
theorem z9x {Γ:AProg} {k k':Nat} (h:k≤k'):v7f (z4l Γ k) (z4l Γ k'):=by
 induction h with
 | refl=>exact fun _ _ _ _ h=>h
 | step _ ih=>exact fun _ _ _ _ h=>k0r _ _ _ _ _ (ih _ _ _ _ h)
theorem x4v {Γ:AProg} {k k':Nat} (h:k≤k'):x2x (z5f Γ k) (z5f Γ k'):=q1b (z9x h)
theorem z8h {Γ:AProg} {k k' b:Nat} {c:ACode} {s:St} {r r'} (h:z4l Γ k b c s=some r) (h':z4l Γ k' b c s=some r'):r=r':=by
 have h1:=z9x (Nat.le_max_left k k') _ _ _ _ h
 have h2:=z9x (Nat.le_max_right k k') _ _ _ _ h'
 rw[h1] at h2
 injection h2
theorem q9r {Γ:AProg} {k k' f:Nat} {asx:List AV} {h:List AObj} {c:Nat} {r r'} (h1:z5f Γ k f asx h c=some r) (h2:z5f Γ k' f asx h c=some r'):r=r':=by
 have h1:=x4v (Nat.le_max_left k k') _ _ _ _ _ h1
 have h2:=x4v (Nat.le_max_right k k') _ _ _ _ _ h2
 rw[h1] at h2
 injection h2
abbrev Post:=AEx→St→Prop
inductive Kf where
 | seq (b:ACode)
 | block (id:Nat)
def Kf.next:Kf→AEx→ACode
 | .seq b, .norm=>b
 | .seq _, .exit i=> .exit i
 | .seq _, .ret=> .ret
 | .block _, .norm=> .skip
 | .block i, .exit j=>if j=i then .skip else .exit j
 | .block _, .ret=> .ret
def Kf.on:Kf→ACode→ACode
 | .seq b,a=> .seq a b
 | .block i,a=> .block i a
section
variable (Γ:AProg)
def W (base:Nat) (c:ACode) (s:St) (Q:Post):Prop:=∃ k e s',z4l Γ k base c s=some (e,s')∧Q e s'
def WC (f:Nat) (args:List AV) (h:List AObj) (clk:Nat) (Q:AV→List AObj→Nat→Prop):Prop:=∃ k v h' c,z5f Γ k f args h clk=some (v,h',c)∧Q v h' c
def K (base:Nat) (c:ACode):List Kf→St→Post→Prop
 | [],s,Q=>W Γ base c s Q
 | f::ks,s,Q=>W Γ base c s fun e s'=>K base (f.next e) ks s' Q
end
section
variable {Γ:AProg} {base:Nat}
theorem q7l {s:St} {Q:Post}:W Γ base .skip s Q=Q .norm s:=by
 refine propext ⟨?_,fun h=>⟨1,_,_,rfl,h⟩⟩
 rintro ⟨k,e,s',h,hq⟩
 obtain⟨rfl⟩:=z8h (k':=1) h rfl
 exact hq
theorem j3r {i:Nat} {s:St} {Q:Post}:W Γ base (.exit i) s Q=Q (.exit i) s:=by
 refine propext ⟨?_,fun h=>⟨1,_,_,rfl,h⟩⟩
 rintro ⟨k,e,s',h,hq⟩
 obtain⟨rfl⟩:=z8h (k':=1) h rfl
 exact hq
theorem k6k {s:St} {Q:Post}:W Γ base .ret s Q=Q .ret s:=by
 refine propext ⟨?_,fun h=>⟨1,_,_,rfl,h⟩⟩
 rintro ⟨k,e,s',h,hq⟩
 obtain⟨rfl⟩:=z8h (k':=1) h rfl
 exact hq
theorem u9r {f:Kf} {c:ACode} {s:St} {Q:Post}:W Γ base (f.on c) s Q=W Γ base c s fun e s'=>W Γ base (f.next e) s' Q:=by
 apply propext
 constructor
 ·rintro ⟨k,e,s',h,hq⟩
  cases k with
  | zero=>cases h
  | succ k=>
    cases f with
    | seq b=>
      rw[Kf.on,z4l] at h
      split at h
      ·rename_i s1 h1
       exact⟨k, .norm,s1,h1,k,e,s',h,hq⟩
      ·rename_i hn
       cases e with
       | norm=>exact absurd h (hn s')
       | exit i=>exact⟨k,_,_,h,1,_,_,rfl,hq⟩
       | ret=>exact⟨k,_,_,h,1,_,_,rfl,hq⟩
    | block i=>
      rw[Kf.on,z4l] at h
      split at h
      ·rename_i j s1 h1
       split at h
       ·rename_i hj
        injection h with h
        injection h with e1 e2
        subst e1;subst e2
        exact⟨k,_,_,h1,by simp only[Kf.next,if_pos hj];exact⟨1,_,_,rfl,hq⟩⟩
       ·rename_i hj
        injection h with h
        injection h with e1 e2
        subst e1;subst e2
        exact⟨k,_,_,h1,by simp only[Kf.next,if_neg hj];exact⟨1,_,_,rfl,hq⟩⟩
      ·rename_i hn
       cases e with
       | norm=>exact⟨k,_,_,h,1,_,_,rfl,hq⟩
       | exit j=>exact absurd h (hn j s')
       | ret=>exact⟨k,_,_,h,1,_,_,rfl,hq⟩
 ·rintro ⟨k,e,s1,h1,k',e',s',h2,hq⟩
  have h1':=z9x (Nat.le_max_left k k') _ _ _ _ h1
  have h2':=z9x (Nat.le_max_right k k') _ _ _ _ h2
  refine⟨max k k' + 1,e',s', ?_,hq⟩
  cases f with
  | seq b=>
    rw[Kf.on,z4l]
    simp only[h1']
    cases e with
    | norm=>exact h2'
    | exit i=>exact (congrArg some (z8h (k':=1) h2 rfl)).symm
    | ret=>exact (congrArg some (z8h (k':=1) h2 rfl)).symm
  | block i=>
    rw[Kf.on,z4l]
    simp only[h1']
    cases e with
    | norm=>exact (congrArg some (z8h (k':=1) h2 rfl)).symm
    | exit j=>
      simp only[Kf.next] at h2
      by_cases hj:j=i
      ·simp only[if_pos hj] at h2⊢
       exact (congrArg some (z8h (k':=1) h2 rfl)).symm
      ·simp only[if_neg hj] at h2⊢
       exact (congrArg some (z8h (k':=1) h2 rfl)).symm
    | ret=>exact (congrArg some (z8h (k':=1) h2 rfl)).symm
variable {ks:List Kf} {s s':St} {Q:Post} {c c':ACode}
theorem w4v (h:∀ Q,W Γ base c s Q=W Γ base c' s' Q):K Γ base c ks s Q=K Γ base c' ks s' Q:=by
 cases ks <;> exact h _
theorem u5y {f:Kf}:K Γ base (f.on c) ks s Q=K Γ base c (f::ks) s Q:=by
 cases ks <;> exact u9r
theorem v7g {a b:ACode}:K Γ base (.seq a b) ks s Q=K Γ base a (.seq b::ks) s Q:=u5y (f:= .seq b)
theorem v7h {i:Nat} {a:ACode}:K Γ base (.block i a) ks s Q=K Γ base a (.block i::ks) s Q:=u5y (f:= .block i)
theorem q6g {b:ACode}:K Γ base .skip (.seq b::ks) s Q=K Γ base b ks s Q:=q7l
theorem x8l {i:Nat}:K Γ base .skip (.block i::ks) s Q=K Γ base .skip ks s Q:=q7l
theorem j7h {b:ACode} {i:Nat}:K Γ base (.exit i) (.seq b::ks) s Q=K Γ base (.exit i) ks s Q:=j3r
theorem x8m {i j:Nat}:K Γ base (.exit j) (.block i::ks) s Q=K Γ base (if j=i then .skip else .exit j) ks s Q:=j3r
theorem k0s {b:ACode}:K Γ base .ret (.seq b::ks) s Q=K Γ base .ret ks s Q:=k6k
theorem j1d {i:Nat}:K Γ base .ret (.block i::ks) s Q=K Γ base .ret ks s Q:=k6k
theorem x2z:K Γ base .skip [] s Q=Q .norm s:=q7l
theorem x3a {i:Nat}:K Γ base (.exit i) [] s Q=Q (.exit i) s:=j3r
theorem x8n:K Γ base .ret [] s Q=Q .ret s:=k6k
def BK (Γ:AProg) (base:Nat) (x:AV) (a b:ACode) (ks:List Kf) (s:St) (Q:Post):Prop:=
 match x with
 | .bool true=>K Γ base a ks s Q
 | .bool false=>K Γ base b ks s Q
 | _=>False
theorem v7i {a b:ACode}:BK Γ base (.bool true) a b ks s Q=K Γ base a ks s Q:=(rfl)
theorem k6l {a b:ACode}:BK Γ base (.bool false) a b ks s Q=K Γ base b ks s Q:=(rfl)
theorem z8i {x:Bool} {a b:ACode} (ha:x=true→K Γ base a ks s Q) (hb:x=false→K Γ base b ks s Q):BK Γ base (.bool x) a b ks s Q:=by
 cases x
 ·exact hb rfl
 ·exact ha rfl
theorem w4w {x:AOpd} {a b:ACode}:W Γ base (.cond x a b) s Q=match x.ev s.ts with
  | .bool true=>W Γ base a s Q
  | .bool false=>W Γ base b s Q
  | _=>False:=by
 apply propext
 have key:∀ t,x.ev s.ts= .bool t→(W Γ base (.cond x a b) s Q↔W Γ base (if t then a else b) s Q):=by
  intro t ht
  constructor
  ·rintro ⟨k,e,s',h,hq⟩
   cases k with
   | zero=>cases h
   | succ k=>
     rw[z4l] at h
     simp only[ht] at h
     exact⟨k,e,s',h,hq⟩
  ·rintro ⟨k,e,s',h,hq⟩
   exact⟨k + 1,e,s',by rw[z4l];simp only[ht];exact h,hq⟩
 split
 ·rename_i h;exact key true h
 ·rename_i h;exact key false h
 ·rename_i h1 h2
  refine⟨?_,False.elim⟩
  rintro ⟨k,e,s',h,hq⟩
  cases k with
  | zero=>cases h
  | succ k=>
    rw[z4l] at h
    split at h
    ·rename_i t ht
     cases t
     ·exact h2 ht
     ·exact h1 ht
    ·cases h
theorem w4x {x:AOpd} {a b:ACode}:K Γ base (.cond x a b) ks s Q=BK Γ base (x.ev s.ts) a b ks s Q:=by
 unfold BK
 cases ks <;> · unfold K;rw[w4w]
def q9s (Γ:AProg) (base:Nat) (s:St) (o:AOper) (h':List AObj):List Nat×List Nat:=
 if z6d s.ts o.guard=some true then foot Γ s.h h' base s.ts o.op else ([],[])
def z0v (N:Nat) (ops:List AOper) (fs:List (List Nat×List Nat)) (ps:List (Nat×Nat)):Bool:=
 ps.all fun p=>apart (fs.getD p.1 ([],[])) (fs.getD p.2 ([],[])) && (!(z0s ops p.1 || z0s ops p.2) || ((z0w fs p.1++z0w fs p.2).all (· < N)))
inductive Md where
 | plain
 | draw (N:Nat) (ops:List AOper) (ps:List (Nat×Nat)) (fs:List (List Nat×List Nat))
def Md.add (f:List Nat×List Nat):Md→Md
 | .plain=> .plain
 | .draw N ops ps fs=> .draw N ops ps (fs++[f])
def Md.adds:Md→List (List Nat×List Nat)→Md
 | m,[]=>m
 | m,f::fs=>(m.add f).adds fs
def Md.ok:Md→Bool
 | .plain=>true
 | .draw N ops ps fs=>z0v N ops fs ps
def O (Γ:AProg) (base:Nat) (m:Md) (g:Nat) (os:List AOper) (s:St) (ks:List Kf) (Q:Post):Prop:=
 ∃ k s' fs,z3o (z0q (z4l Γ k) Γ) Γ base g os s=some (s',fs)∧(m.adds fs).ok=true∧K Γ base .skip ks s' Q
variable {m:Md} {g:Nat} {os:List AOper}
theorem q9t:O Γ base .plain g [] s ks Q=K Γ base .skip ks s Q:=by
 refine propext ⟨?_,fun h=>⟨0,s,[],rfl,rfl,h⟩⟩
 rintro ⟨k,s',fs,h,_,hq⟩
 simp only[z3o,Option.some.injEq,Prod.mk.injEq] at h
 obtain⟨rfl,rfl⟩:=h
 exact hq
theorem j7i {N:Nat} {ops:List AOper} {ps:List (Nat×Nat)} {fs:List (List Nat×List Nat)}:O Γ base (.draw N ops ps fs) g [] s ks Q=(z0v N ops fs ps=true∧K Γ base .skip ks s Q):=by
 refine propext ⟨?_,fun h=>⟨0,s,[],rfl,h.1,h.2⟩⟩
 rintro ⟨k,s',fs',h,h2,hq⟩
 simp only[z3o,Option.some.injEq,Prod.mk.injEq] at h
 obtain⟨rfl,rfl⟩:=h
 exact⟨h2,hq⟩
theorem q3x {C:Caller}:∀ {os:List AOper} {g:Nat} {s:St},(z3o C Γ base g os s).map (·.1)=z8s C base g os s
 | [],_,_=>rfl
 | o::os,g,s=>by
   simp only[z3o,z8s]
   split
   ·rw[←q3x]
    simp only[Option.map_map]
    rfl
   ·rfl
theorem x3b:∀ {fs:List (List Nat×List Nat)},(Md.plain.adds fs)= .plain
 | []=>rfl
 | _::fs=>x3b (fs:=fs)
theorem q5f {N:Nat} {ops:List AOper} {ps:List (Nat×Nat)}:∀ {fs gs:List (List Nat×List Nat)},(Md.draw N ops ps gs).adds fs= .draw N ops ps (gs++fs)
 | [],gs=>by rw[List.append_nil];rfl
 | f::fs,gs=>by
   simp only[Md.adds,Md.add]
   rw[q5f,List.append_assoc]
   rfl
theorem q3j {n:Nat}:W Γ base (.region n os []) s Q=∃ k s',z8s (z0q (z4l Γ k) Γ) base s.clk os ⟨s.ts,s.h,s.clk + n⟩=some s'∧Q .norm s':=by
 apply propext
 constructor
 ·rintro ⟨k,e,s',h,hq⟩
  cases k with
  | zero=>cases h
  | succ k=>
    rw[z4l] at h
    simp only[region,Option.map_eq_some_iff] at h
    obtain⟨a,h1,h2⟩:=h
    simp only[Prod.mk.injEq] at h2
    obtain⟨rfl,rfl⟩:=h2
    exact⟨k,a,h1,hq⟩
 ·rintro ⟨k,s',h,hq⟩
  exact⟨k + 1, .norm,s',by rw[z4l];simp only[region,h,Option.map_some],hq⟩
theorem q5g {n:Nat} {p:Nat×Nat} {ps:List (Nat×Nat)}:W Γ base (.region n os (p::ps)) s Q=∃ k s' fs,z3o (z0q (z4l Γ k) Γ) Γ base s.clk os ⟨s.ts,s.h,s.clk + n⟩=some (s',fs)∧z0v s.h.length os fs (p::ps)=true∧Q .norm s':=by
 apply propext
 constructor
 ·rintro ⟨k,e,s',h,hq⟩
  cases k with
  | zero=>cases h
  | succ k=>
    rw[z4l] at h
    simp only[region,Option.map_eq_some_iff] at h
    obtain⟨a,h1,h2⟩:=h
    simp only[Prod.mk.injEq] at h2
    obtain⟨rfl,rfl⟩:=h2
    split at h1
    ·rename_i s1 fs h3
     split at h1
     ·rename_i h4
      injection h1 with h1
      subst h1
      exact⟨k,s1,fs,h3,h4,hq⟩
     ·cases h1
    ·cases h1
 ·rintro ⟨k,s',fs,h,h2,hq⟩
  refine⟨k + 1, .norm,s', ?_,hq⟩
  unfold z0v at h2
  rw[z4l]
  simp only[region,h]
  rw[if_pos h2]
  rfl
theorem k6m {n:Nat}:K Γ base (.region n os []) ks s Q=O Γ base .plain s.clk os ⟨s.ts,s.h,s.clk + n⟩ ks Q:=by
 have key:∀ R:St→Prop,(∃ k s',z8s (z0q (z4l Γ k) Γ) base s.clk os ⟨s.ts,s.h,s.clk + n⟩=some s'∧R s')=∃ k s' fs,z3o (z0q (z4l Γ k) Γ) Γ base s.clk os ⟨s.ts,s.h,s.clk + n⟩=some (s',fs)∧(Md.plain.adds fs).ok=true∧R s':=by
  intro R
  apply propext
  constructor
  ·rintro ⟨k,s',h,hr⟩
   rw[←q3x (Γ:=Γ),Option.map_eq_some_iff] at h
   obtain⟨⟨s1,fs⟩,h1,rfl⟩:=h
   exact⟨k,s1,fs,h1,by rw[x3b];rfl,hr⟩
  ·rintro ⟨k,s',fs,h,_,hr⟩
   exact⟨k,s',by rw[←q3x (Γ:=Γ),h];rfl,hr⟩
 unfold O
 cases ks with
 | nil=>
   unfold K
   rw[q3j,key]
   simp only[q7l]
 | cons f ks=>
   unfold K
   rw[q3j,key]
   simp only[q7l]
theorem z0y {n:Nat} {p:Nat×Nat} {ps:List (Nat×Nat)}:K Γ base (.region n os (p::ps)) ks s Q=O Γ base (.draw s.h.length os (p::ps) []) s.clk os ⟨s.ts,s.h,s.clk + n⟩ ks Q:=by
 unfold O
 cases ks with
 | nil=>
   unfold K
   rw[q5g]
   simp only[q7l,q5f,List.nil_append,Md.ok]
 | cons f ks=>
   unfold K
   rw[q5g]
   simp only[q7l,q5f,List.nil_append,Md.ok]
theorem v2e {o:AOper} {s1:St} (h:∀ k,stepA (z0q (z4l Γ k) Γ) base g o s=some s1):O Γ base m g (o::os) s ks Q=O Γ base (m.add (q9s Γ base s o s1.h)) (g + 1) os s1 ks Q:=by
 unfold O
 apply propext
 constructor
 ·rintro ⟨k,s',fs,h1,h2,h3⟩
  simp only[z3o,h k,Option.map_eq_some_iff] at h1
  obtain⟨⟨s2,fs2⟩,h4,h5⟩:=h1
  simp only[Prod.mk.injEq] at h5
  obtain⟨rfl,rfl⟩:=h5
  exact⟨k,s2,fs2,h4,h2,h3⟩
 ·rintro ⟨k,s',fs,h1,h2,h3⟩
  exact⟨k,s',q9s Γ base s o s1.h::fs,by simp only[z3o,h k,h1,Option.map_some];rfl,h2,h3⟩
theorem j1e {o:AOper} (h:∀ k,stepA (z0q (z4l Γ k) Γ) base g o s=none):O Γ base m g (o::os) s ks Q=False:=by
 unfold O
 refine propext ⟨?_,False.elim⟩
 rintro ⟨k,s',fs,h1,_⟩
 simp only[z3o,h k] at h1
 cases h1
variable {ts:Tmps} {h:List AObj} {clk:Nat} {dst:Option Nat}
def PO (Γ:AProg) (base:Nat) (x:Option (AV×List AObj)) (f:List Nat×List Nat) (m:Md) (dst:Option Nat) (g:Nat) (os:List AOper) (ts:Tmps) (clk:Nat) (ks:List Kf) (Q:Post):Prop:=
 match x with
 | some (v,h')=>O Γ base (m.add f) (g + 1) os ⟨z8c ts dst v,h',clk⟩ ks Q
 | none=>False
theorem z6v {op:AOp} (hop:op.isCall=false):O Γ base m g (⟨dst,op,none⟩::os) ⟨ts,h,clk⟩ ks Q=PO Γ base (prim h base g ts op) (foot Γ [] [] base ts op) m dst g os ts clk ks Q:=by
 have hf:∀ h',q9s Γ base ⟨ts,h,clk⟩ ⟨dst,op,none⟩ h'=foot Γ [] [] base ts op:=by
  intro h'
  cases op <;> first | rfl | cases hop
 have hs:∀ k,stepA (z0q (z4l Γ k) Γ) base g ⟨dst,op,none⟩ ⟨ts,h,clk⟩=match prim h base g ts op with
   | some (v,h')=>some ⟨z8c ts dst v,h',clk⟩
   | none=>none:=by
  intro k
  cases op <;> first | rfl | cases hop
 unfold PO
 split
 ·rename_i v h' hp
  rw[v2e (s1:=⟨z8c ts dst v,h',clk⟩) (fun k=>by rw[hs k,hp]),hf]
 ·rename_i hp
  exact j1e (fun k=>by rw[hs k,hp])
def gW (x:AV) (b:Bool):Option Bool:=
 match x with
 | .bool y=>some (y==b)
 | .tup []=>some false
 | _=>none
theorem v7j {y b:Bool}:gW (.bool y) b=some (y==b):=(rfl)
theorem w4y {b:Bool}:gW (.tup []) b=some false:=(rfl)
def GO (Γ:AProg) (base:Nat) (w:Option Bool) (op:AOp) (m:Md) (dst:Option Nat) (g:Nat) (os:List AOper) (s:St) (ks:List Kf) (Q:Post):Prop:=
 match w with
 | some true=>O Γ base m g (⟨dst,op,none⟩::os) s ks Q
 | some false=>O Γ base (m.add ([],[])) (g + 1) os ⟨z8c s.ts dst (.tup []),s.h,s.clk⟩ ks Q
 | none=>False
theorem v7k {op:AOp}:GO Γ base (some true) op m dst g os s ks Q=O Γ base m g (⟨dst,op,none⟩::os) s ks Q:=(rfl)
theorem k6n {op:AOp}:GO Γ base (some false) op m dst g os ⟨ts,h,clk⟩ ks Q=O Γ base (m.add ([],[])) (g + 1) os ⟨z8c ts dst (.tup []),h,clk⟩ ks Q:=(rfl)
theorem v7l {op:AOp} {t:Nat} {b:Bool}:O Γ base m g (⟨dst,op,some (t,b)⟩::os) ⟨ts,h,clk⟩ ks Q=GO Γ base (gW (ts t) b) op m dst g os ⟨ts,h,clk⟩ ks Q:=by
 have hw:z6d ts (some (t,b))=gW (ts t) b:=rfl
 unfold GO
 split
 ·rename_i h1
  rw[h1] at hw
  unfold O
  have:∀ k,z3o (z0q (z4l Γ k) Γ) Γ base g (⟨dst,op,some (t,b)⟩::os) ⟨ts,h,clk⟩=z3o (z0q (z4l Γ k) Γ) Γ base g (⟨dst,op,none⟩::os) ⟨ts,h,clk⟩:=by
   intro k
   have h2:z6d ts none=some true:=rfl
   simp only[z3o,stepA,hw,h2]
  simp only[this]
 ·rename_i h1
  rw[h1] at hw
  rw[v2e (s1:=⟨z8c ts dst (.tup []),h,clk⟩) (fun k=>by simp only[stepA,hw])]
  simp only[q9s,hw,Option.some.injEq,Bool.false_eq_true,if_false]
 ·rename_i h1
  rw[h1] at hw
  exact j1e (fun k=>by simp only[stepA,hw])
def CK (Γ:AProg) (base f:Nat) (asx:List AV) (h:List AObj) (clk:Nat) (m:Md) (dst:Option Nat) (g:Nat) (os:List AOper) (ts:Tmps) (ks:List Kf) (Q:Post):Prop:=
 WC Γ f asx h clk fun v h' c=>O Γ base (m.add (z3z (z0z Γ f asx h) h h')) (g + 1) os ⟨z8c ts dst v,h',c⟩ ks Q
theorem k0t {o:AOper} {f:Nat} {asx:List AV} (hs:∀ k,stepA (z0q (z4l Γ k) Γ) base g o ⟨ts,h,clk⟩=match z5f Γ k f asx h clk with
   | some (v,h',c)=>some ⟨z8c ts o.dst v,h',c⟩
   | none=>none) (hf:∀ h',q9s Γ base ⟨ts,h,clk⟩ o h'=z3z (z0z Γ f asx h) h h'):O Γ base m g (o::os) ⟨ts,h,clk⟩ ks Q=CK Γ base f asx h clk m o.dst g os ts ks Q:=by
 unfold CK
 apply propext
 constructor
 ·rintro ⟨k,s',fs,h1,h2,h3⟩
  simp only[z3o,hs k] at h1
  cases hc:z5f Γ k f asx h clk with
  | none=>rw[hc] at h1;cases h1
  | some r=>
    obtain⟨v,h',c⟩:=r
    rw[hc] at h1
    simp only[Option.map_eq_some_iff] at h1
    obtain⟨⟨s2,fs2⟩,h4,h5⟩:=h1
    simp only[Prod.mk.injEq] at h5
    obtain⟨rfl,rfl⟩:=h5
    refine⟨k,v,h',c,hc,k,s2,fs2,h4, ?_,h3⟩
    rw[←hf]
    exact h2
 ·rintro ⟨k,v,h',c,hc,k',s2,fs2,h4,h2,h3⟩
  refine⟨max k k',s2,q9s Γ base ⟨ts,h,clk⟩ o h'::fs2, ?_,by rw[hf];exact h2,h3⟩
  simp only[z3o,hs,x4v (Nat.le_max_left k k') _ _ _ _ _ hc,q2a (q1b (z9x (Nat.le_max_right k k'))) h4,Option.map_some]
  rfl
theorem w4z {f:Nat} {args:List AOpd}:O Γ base m g (⟨dst, .call f args,none⟩::os) ⟨ts,h,clk⟩ ks Q=CK Γ base f (args.map (·.ev ts)) h clk m dst g os ts ks Q:=
 k0t (fun _=>rfl) (fun _=>rfl)
def VK (Γ:AProg) (base:Nat) (x:AV) (asx:List AV) (h:List AObj) (clk:Nat) (m:Md) (dst:Option Nat) (g:Nat) (os:List AOper) (ts:Tmps) (ks:List Kf) (Q:Post):Prop:=
 match x with
 | .fn f cap=>CK Γ base f (asx++cap) h clk m dst g os ts ks Q
 | _=>False
theorem y8w {f:Nat} {cap asx:List AV}:VK Γ base (.fn f cap) asx h clk m dst g os ts ks Q=CK Γ base f (asx++cap) h clk m dst g os ts ks Q:=(rfl)
theorem v7m {x:AOpd} {args:List AOpd}:O Γ base m g (⟨dst, .callv x args,none⟩::os) ⟨ts,h,clk⟩ ks Q=VK Γ base (x.ev ts) (args.map (·.ev ts)) h clk m dst g os ts ks Q:=by
 unfold VK
 split
 ·rename_i f cap hx
  refine k0t (fun k=> ?_) (fun h'=> ?_)
  ·simp only[stepA,z6d,hx]
   rfl
  ·simp only[q9s,z6d,foot,hx,if_true]
 ·rename_i hn
  refine j1e (fun k=> ?_)
  simp only[stepA,z6d]
def Pure (Γ:AProg) (f:Nat) (args:List AV) (v:AV):Prop:=∀ h clk,(∃ k,z5f Γ k f args h clk=some (v,h,clk))∧z0z Γ f args h=[]
theorem z0a {f:Nat} {asx:List AV} {v:AV} (hp:Pure Γ f asx v):CK Γ base f asx h clk m dst g os ts ks Q=O Γ base (m.add ([],[])) (g + 1) os ⟨z8c ts dst v,h,clk⟩ ks Q:=by
 obtain⟨⟨k,hk⟩,hf⟩:=hp h clk
 unfold CK
 apply propext
 constructor
 ·rintro ⟨k',v',h',c,hc,hq⟩
  have:=q9r hk hc
  simp only[Prod.mk.injEq] at this
  obtain⟨rfl,rfl,rfl⟩:=this
  rw[hf] at hq
  exact hq
 ·intro hq
  refine⟨k,v,h,clk,hk, ?_⟩
  rw[hf]
  exact hq
theorem z1q {b:ACode} (I:Nat→St→Prop) (n:Nat) (h0:I n s)
  (hstep:∀ m s (P:Post),I m s→(∀ m' s',m' < m→I m' s'→P .norm s')→(∀ i s',K Γ base (.exit i) ks s' Q→P (.exit i) s')→(∀ s',K Γ base .ret ks s' Q→P .ret s')→K Γ base b [] s P):K Γ base (.loop b) ks s Q:=by
 have key:∀ R:Post,(∀ m s (P:Post),I m s→(∀ m' s',m' < m→I m' s'→P .norm s')→(∀ i s',R (.exit i) s'→P (.exit i) s')→(∀ s',R .ret s'→P .ret s')→W Γ base b s P)→W Γ base (.loop b) s R:=by
  intro R hst
  clear hstep
  induction n using Nat.strongRecOn generalizing s with
  | ind n ih=>
    obtain⟨k,e,s1,h1,h2⟩:=hst n s (fun e s'=>match e with
     | .norm=>∃ m',m' < n∧I m' s'
     | e=>R e s') h0 (fun m' s' hm hi=>⟨m',hm,hi⟩) (fun i s' h=>h) (fun s' h=>h)
    cases e with
    | norm=>
      obtain⟨m',hm,hi⟩:=h2
      obtain⟨k2,e2,s2,h3,h4⟩:=ih m' hm hi
      refine⟨max k k2 + 1,e2,s2, ?_,h4⟩
      rw[z4l]
      simp only[z9x (Nat.le_max_left k k2) _ _ _ _ h1]
      exact z9x (Nat.le_max_right k k2) _ _ _ _ h3
    | exit i=>exact⟨k + 1, .exit i,s1,by rw[z4l];simp only[h1],h2⟩
    | ret=>exact⟨k + 1, .ret,s1,by rw[z4l];simp only[h1],h2⟩
 cases ks with
 | nil=>
   refine key Q fun m s P hi hn he hr=>hstep m s P hi hn (fun i s' h=> ?_) (fun s' h=> ?_)
   ·exact he i s' (by rw[x3a] at h;exact h)
   ·exact hr s' (by rw[x8n] at h;exact h)
 | cons f ks=>
   refine key _ fun m s P hi hn he hr=>hstep m s P hi hn (fun i s' h=> ?_) (fun s' h=> ?_)
   ·refine he i s' ?_
    unfold K at h
    rw[j3r] at h
    exact h
   ·refine hr s' ?_
    unfold K at h
    rw[k6k] at h
    exact h
theorem k6o {x:AOpd} {p q:Nat} {a b:ACode} {f n:Nat} {v:AV} (hx:x.ev s.ts= .bwd f v) (hn:z7g v=some n) (hf:Γ.iters.contains f=true) (J:Nat→List AObj→Nat→Prop)
  (h0:J n s.h s.clk) (hstep:∀ i h c (P:Post),i < n→J (i + 1) h c→(∀ s',J i s'.h s'.clk→P .norm s')→∃ xv,q7a h v i=some xv∧K Γ base a [.seq b] ⟨upd (upd s.ts p (.int .i64 i)) q xv,h,c⟩ P)
  (hQ:∀ h c,J 0 h c→K Γ base .skip ks ⟨s.ts,h,c⟩ Q):K Γ base (.rangeB x p q a b) ks s Q:=by
 have key:∀ i h c,i≤n→J i h c→∃ h' c',J 0 h' c'∧∃ k,q1t (fun s=>match z4l Γ k base a s with
   | some (.norm,s')=>z4l Γ k base b s'
   | r=>r) v s.ts p q i (h,c)=some (h',c'):=by
  intro i
  induction i with
  | zero=>intro h c _ hj;exact⟨h,c,hj,0,rfl⟩
  | succ i ih=>
    intro h c hi hj
    obtain⟨xv,hxv,hw⟩:=hstep i h c (fun e s'=>e= .norm∧J i s'.h s'.clk) (by omega) hj (fun s' h=>⟨rfl,h⟩)
    rw[←v7g] at hw
    obtain⟨k,e,s1,h1,rfl,hj2⟩:=hw
    obtain⟨h',c',h5,k2,h6⟩:=ih s1.h s1.clk (by omega) hj2
    cases k with
    | zero=>cases h1
    | succ k=>
    rw[z4l] at h1
    have hle:∀ {k k':Nat},k≤k'→∀ s r,(match z4l Γ k base a s with
     | some (.norm,s')=>z4l Γ k base b s'
     | r=>r)=some r→(match z4l Γ k' base a s with
     | some (.norm,s')=>z4l Γ k' base b s'
     | r=>r)=some r:=by
     intro k k' hk s r hr
     cases hx:z4l Γ k base a s with
     | none=>rw[hx] at hr;cases hr
     | some q=>
       rw[hx] at hr
       rw[z9x hk _ _ _ _ hx]
       obtain⟨e,s2⟩:=q
       cases e with
       | norm=>exact z9x hk _ _ _ _ hr
       | exit i=>exact hr
       | ret=>exact hr
    refine⟨h',c',h5,max k k2, ?_⟩
    simp only[q1t,hxv]
    rw[hle (Nat.le_max_left k k2) _ _ h1]
    exact q3w (hle (Nat.le_max_right k k2)) h6
 obtain⟨h',c',h1,k,h2⟩:=key n s.h s.clk (Nat.le_refl _) h0
 have:=hQ h' c' h1
 have e1:z4l Γ (k + 1) base (.rangeB x p q a b) s=some (.norm,⟨s.ts,h',c'⟩):=by
  rw[z4l]
  simp only[hx,hn,hf,if_true]
  exact congrArg (Option.map fun m=>(AEx.norm,(⟨s.ts,m.1,m.2⟩:St))) h2
 cases ks with
 | nil=>
   rw[x2z] at this
   exact⟨k + 1,_,_,e1,this⟩
 | cons f ks=>
   unfold K at this
   rw[q7l] at this
   exact⟨k + 1,_,_,e1,this⟩
end
end
end Go.Proofs.YtdfepmffiampgaaGreatDoor.Am
