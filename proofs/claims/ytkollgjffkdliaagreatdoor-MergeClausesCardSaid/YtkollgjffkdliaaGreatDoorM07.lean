/- Regions whose order is open: joined Functions that are told by tables The functions of this program that loops go over: slices Walking code of the abstract machine: what is left to do is data, so that -/
import Derived.RangeFuncCalls
import Derived.Maps.RangeWalk
import Derived.IntWalk
import Derived.LoopIn
import Derived.Attr
import Derived.Test.YtkollgjffkdliaaGreatDoorProg
import Derived.Test.YtkollgjffkdliaaGreatDoorM06
open Bool renaming and_eq_true → b8,false_eq_true → y6,not_eq_true' → p7
open Int renaming toNat_natCast → i6
open List renaming all_eq_true → d6,append_eq_nil_iff → z02,append_nil → u5,getElem?_cons_succ → i9,length_cons → u6,mem_append → j6,mem_cons → y3,mem_cons_self → v9,nil_append → d3,replicate → j1
open Nat renaming add_zero → l9,le_refl → j8,zero_add → y4
open Option renaming getD_some → n5,map_eq_some_iff → j7,map_some → k6
open Nat renaming reduceBEq → z0,reduceAdd → z1,reduceLeDiff → z2,reduceSub → z3
set_option linter.all false
namespace Go.Proofs.YtkollgjffkdliaaGreatDoor.Am
open Go
set_option maxRecDepth 100000
section
variable {P:Program} {G:Ghost} {I:Imm} {h:List AObj} {w:World}
theorem x0f {ops:Array Oper} {listed:Array Bool} (hsz:listed.size=ops.size) {i:Nat}:i∈Region.ready .any ops listed↔i < ops.size∧listed.getD i false=false∧∃ o,ops[i]? =some o∧∀ e∈o.after.toList,Region.binds .any e=true→listed.getD e.on false=true:=by
 unfold Region.ready
 rw[List.mem_filter,List.mem_range]
 constructor
 ·rintro ⟨hi,h⟩
  simp only[b8,p7] at h
  obtain⟨h1,h2⟩:=h
  refine⟨hi, ?_,ops[i],Array.getElem?_eq_getElem hi,fun e he hb=> ?_⟩
  ·rw[Array.getD_eq_getD_getElem?,Array.getElem?_eq_getElem (by omega)] at h1⊢
   exact h1
  ·rw[Array.getElem?_eq_getElem hi] at h2
   simp only[k6,n5] at h2
   have h3:=Array.all_eq_true'.1 h2 e (by simpa using he)
   rw[hb] at h3
   simpa using h3
 ·rintro ⟨hi,h1,o,ho,h2⟩
  refine⟨hi, ?_⟩
  simp only[b8,p7]
  constructor
  ·rw[Array.getD_eq_getD_getElem?,Array.getElem?_eq_getElem (by omega)] at h1⊢
   exact h1
  ·rw[ho]
   simp only[k6,n5]
   refine Array.all_eq_true'.2 fun e he=> ?_
   cases hb:Region.binds .any e with
   | false=>rfl
   | true=>simpa using h2 e (by simpa using he) hb
theorem j4l {listed:Array Bool} {i j:Nat} (hi:i < listed.size):(listed.setIfInBounds i true).getD j false=if j=i then true else listed.getD j false:=by
 rw[Array.getD_eq_getD_getElem?,Array.getD_eq_getD_getElem?,Array.getElem?_setIfInBounds]
 by_cases h:i=j
 ·subst h
  simp[hi]
 ·simp[h,Ne.symm h]
theorem Ran.drew {base clk:Nat} {G':Ghost} {I':Imm} {h':List AObj} {w w':World} {d:Nat} (r:Ran base clk G I h {w with drawn:=d} G' I' h' w'):Ran base clk G I h w G' I' h' w':=
 ⟨r.rel,r.gle,r.ile,r.slots,r.own,⟨r.fr.os,r.fr.tape,r.fr.output,r.fr.size,r.fr.kept⟩,r.ifr⟩
theorem Rel.drew {w:World} {d:Nat} (r:Rel G I h w):Rel G I h {w with drawn:=d}:=r.world fun _ _ hx=>hx
theorem w7m {R:Nat→ACode→St→Option (AEx×St)} {Γ:AProg} {back:Nat→Option Nat} {nt B base clk0 N:Nat} {mu:Nat→Bool} {al:Nat→Nat} {ops:Array Oper} {asx:List AOper} {fs:Nat→List Nat×List Nat}
  (hC:q5h P (z0o R Γ)) (hB:q1t P back) (m:MadeAll P back nt mu al ops asx) (hedge:q6o 0 ops.toList=true)
  (hpair:∀ i j,i < j→j < ops.size→((Region.before ops).toList.getD j 0).testBit i=false→PairOk asx fs N i j):
  ∀ (fuel:Nat) (l:List Nat) (listed:Array Bool) (s s':St) (G:Ghost) (I:Imm) (w:World) (a:Act),l.length≤fuel→listed.size=ops.size→l.Pairwise (· < ·)→(∀ i,i∈l↔i < ops.size∧listed.getD i false=false)→
    (∀ j,listed.getD j false=true→∀ i,((Region.before ops).toList.getD j 0).testBit i=true→listed.getD i false=true)→
    Runs (z0o R Γ) Γ base clk0 asx fs l s s'→N≤s.h.length→Live nt B G I s a w→w6x (fun g=>∃ k∈l,g=clk0 + k) G s.clk→clk0 + ops.size≤s.clk→base≤s.h.length→
    ∀ (r:Option Nat) (q:Nat) (Q:Exit→Act→World→Prop),Came base nt B clk0 G I s w s' (Q .normal)→wpAnyIn (q7t r) q P .any ops Q fuel listed a w:=by
 intro fuel
 induction fuel with
 | zero=>
   intro l listed s s' G I w a hlen hsz hord hmem hdown hruns hN hl hK hclk hb r q Q hQ
   have:l=[]:=List.length_eq_zero_iff.1 (by omega)
   subst this
   cases hruns
   refine⟨List.eq_nil_iff_forall_not_mem.2 fun i hi=> ?_,hQ a w G I hl (Ran.refl hl.rel) (fun g hg=>hK g (.inr hg)) (j8 _) (j8 _)⟩
   have:=(x0f hsz).1 hi
   have:=(hmem i).2 ⟨this.1,this.2.1⟩
   simp at this
 | succ fuel ih=>
   intro l listed s s' G I w a hlen hsz hord hmem hdown hruns hN hl hK hclk hb r q Q hQ
   refine⟨fun hr0=> ?_,fun i hi=> ?_⟩
   ·have hnil:l=[]:=by
     cases l with
     | nil=>rfl
     | cons k l=>
       exfalso
       have hk:=(hmem k).1 v9
       have:k∈Region.ready .any ops listed:=by
        refine (x0f hsz).2 ⟨hk.1,hk.2,ops[k],Array.getElem?_eq_getElem hk.1,fun e he hbd=> ?_⟩
        have hlt:=q7v hedge k ops[k] (by simp) e he hbd
        cases hx:listed.getD e.on false with
        | true=>rfl
        | false=>
          exfalso
          have hin:=(hmem e.on).2 ⟨by omega,hx⟩
          rcases y3.1 hin with heq | hin
          ·omega
          ·have:=List.rel_of_pairwise_cons hord hin
           omega
       rw[hr0] at this
       simp at this
    subst hnil
    cases hruns
    exact hQ a w G I hl (Ran.refl hl.rel) (fun g hg=>hK g (.inr hg)) (j8 _) (j8 _)
   ·obtain⟨hi1,hi2,o,ho,hedges⟩:=(x0f hsz).1 hi
    have hil:=(hmem i).2 ⟨hi1,hi2⟩
    obtain⟨l1,l2,rfl⟩:=List.append_of_mem hil
    have hbits:∀ k,((Region.before ops).toList.getD i 0).testBit k=true→listed.getD k false=true:=fun k hk=>by
     obtain⟨o',ho',e,he,hbd,h3⟩:=j1x hk
     rw[ho] at ho'
     simp only[Option.some.injEq] at ho'
     subst ho'
     have hon:=hedges e he hbd
     rcases h3 with rfl | h3
     ·exact hon
     ·exact hdown e.on hon k h3
    have hlow:∀ k∈l1,k < i:=fun k hk=>(List.pairwise_append.1 hord).2.2 k hk i v9
    have hb1:=hruns.bubble (fun k hk=>hpair k i (hlow k hk) hi1 (by
     cases hx:((Region.before ops).toList.getD i 0).testBit k with
     | false=>rfl
     | true=>
       have h1:=hbits k hx
       have h2:=((hmem k).1 (List.mem_append_left _ hk)).2
       rw[h1] at h2
       simp at h2)) hN
    cases hb1 with
    | cons hao hst hft hrest=>
      rename_i ao s1
      obtain⟨ao',n,hao',hm⟩:=m.made i o ho
      rw[hao] at hao'
      simp only[Option.some.injEq] at hao'
      subst hao'
      have hnd:l1++i::l2=l1++i::l2:=rfl
      have hne:∀ k∈l1++l2,k≠i:=fun k hk he=>by
       subst he
       rcases j6.1 hk with hk | hk
       ·exact Nat.lt_irrefl _ (hlow k hk)
       ·have:=(List.pairwise_append.1 hord).2.1
        exact Nat.lt_irrefl _ (List.rel_of_pairwise_cons this hk)
      have hmem':∀ k,k∈l1++l2↔k∈l1++i::l2∧k≠i:=fun k=>by
       constructor
       ·intro hk
        refine⟨?_,hne k hk⟩
        simp only[j6,y3] at hk⊢
        rcases hk with hk | hk
        ·exact .inl hk
        ·exact .inr (.inr hk)
       ·rintro ⟨hk,hki⟩
        simp only[j6,y3] at hk⊢
        rcases hk with hk | hk | hk
        ·exact .inl hk
        ·exact absurd hk hki
        ·exact .inr hk
      have hstep:=k1p (r:=r) (k:=q) (Q:=Q) (K:=wpAnyIn (q7t r) q P .any ops Q fuel (listed.setIfInBounds i true)) (lo:=clk0) (gen:=clk0 + i) (U:=fun g=>∃ k∈l1++i::l2,g=clk0 + k) hC hB hm hl
       (fun j t hj=>Nat.lt_of_lt_of_le (m.dst j t hj) hl.size) hst ⟨i,hil,rfl⟩ (fun g hg=>by
        obtain⟨k,hk,rfl⟩:=hg
        have:=((hmem k).1 hk).1
        omega) hK (by omega) (by omega) hb (fun a1 w1 G1 I1 hl1 hran hK1 hc1 hlen1 hsz1=>by
        refine ih (l1++l2) (listed.setIfInBounds i true) s1 s' G1 I1 w1 a1 ?_ (by rw[Array.size_setIfInBounds];exact hsz) ?_ (fun k=> ?_) (fun j hj k hk=> ?_) hrest (by omega) hl1 (fun g hg=>hK1 g ?_) (by omega) (by omega) r q Q fun a2 w2 G2 I2 hl2 hran2 hf2 hc2 hlen2=> ?_
        ·simp only[List.length_append,u6] at hlen⊢
         omega
        ·refine List.Pairwise.sublist ?_ hord
         exact List.Sublist.append_left (List.sublist_cons_self _ _) _
        ·rw[hmem' k,hmem k,j4l (by omega)]
         by_cases hki:k=i
         ·simp[hki]
         ·simp[hki]
        ·rw[j4l (by omega)] at hj⊢
         split
         ·rfl
         ·split at hj
          ·rename_i hji
           subst hji
           exact hbits k hk
          ·exact hdown j hj k hk
        ·rcases hg with ⟨k,hk,rfl⟩ | hg
         ·refine .inl ⟨⟨k,((hmem' k).1 hk).1,rfl⟩, ?_⟩
          have:=hne k hk
          omega
         ·exact .inr hg
        ·exact hQ a2 w2 G2 I2 hl2 (hran.trans hran2 (j8 _) (j8 _)) hf2 (by omega) (by omega))
      unfold wpOpIn
      rw[ho]
      simp only
      split
      ·rename_i hw
       rw[if_pos hw] at hstep
       exact hstep
      ·rename_i hw
       rw[if_neg hw] at hstep
       exact hstep
theorem j1y {back:Nat→Option Nat} (hm:P.follows .mixedOrders=true):x8x P back:=by
 intro Γ k nt B base mu al id ops asx hC hB m hind hcalls hedge s s' G I w a hr hl hf hb r q Q hQ
 refine wpIn_region_any hm ?_
 have hlen:=m.len
 have start:∃ fs:Nat→List Nat×List Nat,Runs (z0o (z3z Γ k) Γ) Γ base s.clk asx fs (List.range' 0 asx.length) {s with clk:=s.clk + asx.length} s'∧
   ∀ i j,i < j→j < ops.size→((Region.before ops).toList.getD j 0).testBit i=false→(i,j)∈q1y (Region.before ops).toList asx 0 asx→Apart (fs i) (fs j)∧(z0z asx i=true∨z0z asx j=true→(∀ x∈(fs i).1++(fs i).2,x < s.h.length)∧(∀ x∈(fs j).1++(fs j).2,x < s.h.length)):=by
  unfold region at hr
  split at hr
  ·rename_i hps
   obtain⟨l,hl'⟩:=q3o (Γ:=Γ) hr
   refine⟨fun i=>l.getD i ([],[]),(q2c (j:=0) rfl (by simpa using hl') fun i f hi=>by simp[List.getD,hi]).1,fun i j _ _ _ hmem=> ?_⟩
   rw[hps] at hmem
   simp at hmem
  ·split at hr
   ·rename_i s1 l hl'
    split at hr
    ·rename_i hchk
     simp only[Option.some.injEq] at hr
     subst hr
     obtain⟨hR,hL⟩:=q2c (fs:=fun i=>l.getD i ([],[])) (j:=0) rfl (by simpa using hl') fun i f hi=>by simp[List.getD,hi]
     refine⟨fun i=>l.getD i ([],[]),hR,fun i j hij hj _ hmem=> ?_⟩
     have hc:=d6.1 hchk (i,j) hmem
     simp only[b8,Bool.or_eq_true,p7,Bool.or_eq_false_iff] at hc
     refine⟨j8s hc.1,fun hcall=> ?_⟩
     rcases hc.2 with h1 | h1
     ·rcases hcall with h2 | h2
      ·rw[h1.1] at h2;simp at h2
      ·rw[h1.2] at h2;simp at h2
     ·refine⟨fun x hx=> ?_,fun x hx=> ?_⟩
      ·simpa using d6.1 h1 x (List.mem_append_left _ hx)
      ·simpa using d6.1 h1 x (List.mem_append_right _ hx)
    ·simp at hr
   ·simp at hr
 obtain⟨fs,hruns,hap⟩:=start
 have hat:∀ i,i < ops.size→∃ o,asx[i]? =some o:=fun i hi=>⟨asx[i],List.getElem?_eq_getElem (by omega)⟩
 have hfoot:∀ i o,i < ops.size→asx[i]? =some o→∃ s1 s2,fs i=footOfK Γ base o s1 s2:=fun i o hi ho=>by
  obtain⟨o',s1,s2,ho',h⟩:=hruns.foot i (by simp only[List.mem_range'_1];omega)
  rw[ho] at ho'
  simp only[Option.some.injEq] at ho'
  subst ho'
  exact⟨s1,s2,h⟩
 have hpair:∀ i j,i < j→j < ops.size→((Region.before ops).toList.getD j 0).testBit i=false→PairOk asx fs s.h.length i j:=by
  intro i j hij hj hbit
  obtain⟨x,hx⟩:=hat i (by omega)
  obtain⟨y,hy⟩:=hat j hj
  obtain⟨x1,x2,hfx⟩:=hfoot i x (by omega) hx
  obtain⟨y1,y2,hfy⟩:=hfoot j y hj hy
  have hI:indep x y=true:=by
   have:=q7x hind (q:=j) (o:=y) hy
   rw[y4] at this
   exact q7w this (p:=i) hx (by omega) (by rw[y4];exact hbit)
  have mk:(x.op.isCall=false∨y.op.isCall=false)→Apart (fs i) (fs j)→(y.op.isCall=true→∀ z∈(fs i).1++(fs i).2,z < s.h.length)→(x.op.isCall=true→∀ z∈(fs j).1++(fs j).2,z < s.h.length)→PairOk asx fs s.h.length i j:=fun h1 h2 h3 h4=>by
   refine⟨fun a b ha hb=> ?_,fun a b ha hb=> ?_,h2,fun b hb=> ?_,fun a ha=> ?_⟩
   ·rw[hx] at ha;rw[hy] at hb
    simp only[Option.some.injEq] at ha hb
    subst ha hb
    exact hI
   ·rw[hx] at ha;rw[hy] at hb
    simp only[Option.some.injEq] at ha hb
    subst ha hb
    exact h1
   ·rw[hy] at hb
    simp only[Option.some.injEq] at hb
    subst hb
    exact h3
   ·rw[hx] at ha
    simp only[Option.some.injEq] at ha
    subst ha
    exact h4
  by_cases c1:z3r x.op=0
  ·have he:fs i=([],[]):=by rw[hfx];exact q5n c1
   refine mk (.inl ?_) (by rw[he];exact⟨fun s hs=>by simp at hs,fun s hs=>by simp at hs,fun s _=>by simp⟩) (fun _ z hz=>by rw[he] at hz;simp at hz) (fun hc=>by rw[z5p hc] at c1;simp at c1)
   cases hc:x.op.isCall with
   | false=>rfl
   | true=>rw[z5p hc] at c1;simp at c1
  by_cases c2:z3r y.op=0
  ·have he:fs j=([],[]):=by rw[hfy];exact q5n c2
   refine mk (.inr ?_) (by rw[he];exact⟨fun s _=>by simp,fun s _=>by simp,fun s hs=>by simp at hs⟩) (fun hc=>by rw[z5p hc] at c2;simp at c2) (fun _ z hz=>by rw[he] at hz;simp at hz)
   cases hc:y.op.isCall with
   | false=>rfl
   | true=>rw[z5p hc] at c2;simp at c2
  by_cases c3:z3r x.op=2∨z3r y.op=2
  ·have hmem:(i,j)∈q1y (Region.before ops).toList asx 0 asx:=by
    refine x0e (q:=j) (o:=y) hy ?_
    rw[y4]
    have:=x0d (bj:=(Region.before ops).toList.getD j 0) (j:=j) (cj:=z3r y.op) (os:=asx) (i0:=0) (p:=i) (o:=x) hx (by omega) (by rw[y4];exact hbit) c1 c2 c3
    rwa [y4] at this
   obtain⟨h1,h2⟩:=hap i j hij hj hbit hmem
   have hci:x.op.isCall=true→z0z asx i=true:=fun hc=>by simp[z0z,hx,hc]
   have hcj:y.op.isCall=true→z0z asx j=true:=fun hc=>by simp[z0z,hy,hc]
   refine mk ?_ h1 (fun hc=>(h2 (.inr (hcj hc))).1) (fun hc=>(h2 (.inl (hci hc))).2)
   have:=d6.1 hcalls (i,j) hmem
   simp only[hx,hy,k6,n5,p7,Bool.and_eq_false_iff] at this
   exact this
  ·have e1:z3r x.op=1:=by rcases x3p x.op with h | h | h <;> omega
   have e2:z3r y.op=1:=by rcases x3p y.op with h | h | h <;> omega
   have g1:(fs i).2=[]:=by rw[hfx];exact q5o e1
   have g2:(fs j).2=[]:=by rw[hfy];exact q5o e2
   refine mk (.inl ?_) ⟨fun s hs=>by rw[g1] at hs;simp at hs,fun s hs=>by rw[g1] at hs;simp at hs,fun s hs=>by rw[g2] at hs;simp at hs⟩ (fun hc=>by rw[z5p hc] at e2;simp at e2) (fun hc=>by rw[z5p hc] at e1;simp at e1)
   cases hc:x.op.isCall with
   | false=>rfl
   | true=>rw[z5p hc] at e1;simp at e1
 have hl':Live nt B G I {s with clk:=s.clk + asx.length} a {w with drawn:=w.drawn + 1}:=⟨hl.bnd,hl.dfr,hl.size,hl.tmps,hl.rel.drew⟩
 refine w7m (N:=s.h.length) (clk0:=s.clk) hC hB m hedge hpair ops.size (List.range' 0 asx.length) (Array.replicate ops.size false) _ s' G I _ a (by simp[hlen]) (by simp) ?_ (fun i=> ?_) (fun j hj=> ?_) hruns (j8 _) hl' (fun g hg=>hf g ?_) (by
   show s.clk + ops.size≤s.clk + asx.length
   omega) hb r q Q fun a' w' G' I' h1 h2 h3 h4 h5=>hQ a' w' G' I' h1 h2.drew h3 (by
   have:s.clk + asx.length≤s'.clk:=h4
   omega) h5
 ·exact List.pairwise_lt_range'
 ·rw[List.mem_range'_1,hlen]
  have:(Array.replicate ops.size false).getD i false=false:=by
   rw[Array.getD_eq_getD_getElem?,Array.getElem?_replicate]
   split <;> rfl
  simp[this]
 ·have:(Array.replicate ops.size false).getD j false=false:=by
   rw[Array.getD_eq_getD_getElem?,Array.getElem?_replicate]
   split <;> rfl
  rw[this] at hj
  simp at hj
 ·rcases hg with ⟨k,_,rfl⟩ | hg
  ·omega
  ·have:s.clk + asx.length≤g:=hg
   omega
end
theorem q3b {G G':Ghost}:j1s G G' 0:=by
 intro g i h1 h2
 exact absurd h2 (Nat.not_lt_zero _)
def told (P:Program) (f:Nat) (sem:List AV→Option AV):Prop:=∀ az v,sem az=some v→∀ G I w (cargs:Array Value),VRL G I az cargs.toList→(∀ b o v,I b o=some v→w.cell? ⟨b,o,none⟩=some v)→(∃ clk,Fresh G clk)→CallRes P (real f) cargs w (ExtPost G I w v)
def chk (Γ:AProg) (k f:Nat) (p:List AV×AV):Bool:=(idsL p.1).isEmpty && p.2.ids.isEmpty && match z5c Γ k f p.1 [] 0 with
 | some (w,_,_)=>w.beq p.2
 | none=>false
theorem k8a {P:Program} {Γ:AProg} {back:Nat→Option Nat} (hΓ:ProgOk P back Γ) (hB:q1t P back) (hD:x8x P back) (hR:q1b P Γ) {f:Nat} {tab:List (List AV×AV)} (h:∀ p∈tab,∃ k,chk Γ k f p=true):told P f (z8l tab):=by
 intro az v hv G I w cargs hargs himm _
 unfold z8l at hv
 rw[j7] at hv
 obtain⟨p,hp,rfl⟩:=hv
 have hbeq:=List.find?_some hp
 have haz:p.1=az:=z6v hbeq
 obtain⟨k,hk⟩:=h p (List.mem_of_find?_eq_some hp)
 simp only[chk,b8,List.isEmpty_iff] at hk
 obtain⟨⟨h1,h2⟩,h3⟩:=hk
 split at h3
 ·rename_i v' h' clk hc
  have hvv:=beq_sound h3
  subst hvv
  subst haz
  have hargs0:VRL (fun _=>none) I p.1 cargs.toList:=VRL.keep (n:=0) q3b (by rw[h1];simp) hargs
  intro o a next Q hn
  refine (q6q hΓ hB hD hR k f p.1 [] 0 p.2 h' clk hc (fun _=>none) I w cargs hargs0 ⟨himm,fun i o ho=>by simp at ho,fun i j oi oj b hi=>by simp at hi⟩ (fun _ _=>rfl)) o a next Q fun cv w' he=>hn cv w' ?_
  obtain⟨G',I',hv',hran,_⟩:=he
  refine⟨I',hran.ile,VR.keep (n:=0) q3b (by rw[h2];simp) hv',fun b y hy=> ?_,hran.fr.os,hran.fr.tape,hran.fr.output,hran.fr.size,fun b o v hv=> ?_⟩
  ·have hb:b < w.heap.size:=(Array.getElem?_eq_some_iff.1 hy).1
   rw[hran.fr.kept b hb fun i o hi=>by simp at hi]
   exact hy
  ·rcases Nat.lt_or_ge b w.heap.size with hb | hb
   ·exact .inl (hran.ifr b hb (fun i o hi=>by simp at hi) o v hv)
   ·exact .inr ⟨hb,hran.rel.imm b o v hv⟩
 ·cases h3
end Go.Proofs.YtkollgjffkdliaaGreatDoor.Am
namespace Go.Proofs.YtkollgjffkdliaaGreatDoor
open Go Go.RowKit
namespace Am
set_option maxRecDepth 100000 in
set_option maxHeartbeats 1000000 in
theorem x9f (F:Fence) (m:Nat) (hF:F.fn 294) (hro:F.round=none) (hm:1≤m) (l b n c:Nat) (A:Option Addr) (J:Nat→World→Prop) (W:World) (hn:n < 2 ^ 48)
  (hcap:∀ i W,J i W→W.cell? ⟨b,0,none⟩=some (.slice A n c))
  (hround:∀ i W,i < n→J (i + 1) W→∃ bA oA vx,A=some ⟨bA,oA,none⟩∧n≤c∧W.cell? ⟨bA,oA + i,none⟩=some vx∧YieldAt F (m - 1) Tryz.prog l #[.int .i64 i,vx] W fun e W'=>e= .returned (.bool true)∧J i W')
  (h0:J n W):CallsIn F m Tryz.prog 294 #[.func (.yield l) #[] #[], .pointer (some ⟨b,0,none⟩)] W fun e W'=>(∃ v,e= .returned v)∧J 0 W':=by
 have hc:=hcap _ _ h0
 refine callsIn_of_wp Tryz.func294 rfl hF ?_ hro
 simp only[Tryz.ntmps294,List.size_toArray,u6,List.length_nil,z1,z3,Array.replicate_succ,Array.replicate_zero,List.push_toArray,List.append_toArray,d3,List.cons_append]
 have hw1:IntKind.i64.wrap ((n:Int) - 1)=(n:Int) - 1:=IntWalk.i64_in _ (by omega)
 gi_wp2
 gi_loopw [3] (fun v wr=>∃ k:Nat,k≤n∧v= .int .i64 ((k:Int) - 1)∧J k wr) (fun v _=>(intOf v + 1).toNat)
 case atStart=>exact⟨n,j8 _,rfl,h0⟩
 case round=>
  obtain⟨k,hk,rfl,hJ⟩:=hrel
  cases k with
  | zero=>
    gi_wp2
    go_end0
    exact⟨⟨_,rfl⟩,hJ⟩
  | succ i=>
    have he:(((i + 1:Nat):Int) - 1)=(i:Int):=by omega
    rw[he]
    have hw2:IntKind.i64.wrap ((i:Int) - 1)=(i:Int) - 1:=IntWalk.i64_in _ (by omega)
    obtain⟨bA,oA,vx,rfl,hnc,hcell,fn,tmps,assign,body,hy,hR⟩:=hround i _ (by omega) hJ
    have hc2:=hcap _ _ hJ
    have hlt:(i:Int) < (n:Int):=by omega
    clear he hround
    gi_wp2
    refine hR.mono ?_
    rintro e W3 ⟨rfl,hJ3⟩
    gi_wp2
    go_roundw
    case rel=>exact⟨i,by omega,rfl,hJ3⟩
    case measure=>simp[intOf]
theorem k2b:k1r Tryz.prog 294:=fun q l b n c A J W hn hcap _ hround h0=>
 x9f (q7t none) (q + 1) trivial rfl (Nat.le_add_left 1 q) l b n c A J W hn hcap hround h0
theorem k2c {G:Ghost} {I:Imm} {w:World} {x:AV} {cx:Value} (hr:(z7h x).isSome=true) (hx:VR G I x cx) (himm:∀ b o v,I b o=some v→w.cell? ⟨b,o,none⟩=some v):CallRes Tryz.prog 252 #[cx] w fun cv w'=>∃ I',ILe I I'∧VR G I' (.bwd 294 x) cv∧(∀ (b:Nat) (y:Obj),w.heap[b]? =some y→w'.heap[b]? =some y)∧w'.os=w.os∧w'.tape=w.tape∧w'.output=w.output∧w.heap.size≤w'.heap.size∧
   ∀ b o v,I' b o=some v→I b o=some v∨(w.heap.size≤b∧w'.cell? ⟨b,o,none⟩=some v):=by
 have hlo:∀ b o v,I b o=some v→b < w.heap.size:=fun b o v hv=>by
  have hc:=himm b o v hv
  unfold World.cell? at hc
  simp only at hc
  apply Nat.lt_of_not_le
  intro hle
  rw[Array.getElem?_eq_none hle] at hc
  simp at hc
 obtain⟨A,n,c,rfl⟩:∃ A n c,cx= .slice A n c:=by
  cases x <;> simp[z7h] at hr
  case sl xs t=>
   simp only[VR] at hx
   obtain⟨A,n',c,rfl,_⟩:=hx
   exact⟨A,n',c,rfl⟩
  case ob s g off l=>
   simp only[VR] at hx
   obtain⟨i,A,c,_,_,rfl,_⟩:=hx
   exact⟨A,_,c,rfl⟩
 intro o a next Q hn
 rw[z6i Tryz.func252 rfl (by decide),Oper.upon_enter]
 have hc:Calls Tryz.prog 252 #[.slice A n c] w fun e w'=>e= .returned (.func (.func 294) #[] #[.pointer (some ⟨w.heap.size,0,none⟩)])∧w'=w.alloc (.cells #[.slice A n c] 22):=by
  go_enter Tryz.func252,Tryz.ntmps252
  go_wp2
  go_ret
  exact⟨rfl,rfl⟩
 refine hc.mono ?_
 rintro e w' ⟨rfl,rfl⟩
 refine hn _ _ ⟨fun b o=>if b=w.heap.size∧o=0 then some (.slice A n c) else I b o,fun b o v hv=> ?_, ?_,fun b y hy=> ?_,rfl,rfl,rfl,by simp,fun b o v hv=> ?_⟩
 ·have:=hlo b o v hv
  show (if b=w.heap.size∧o=0 then some (Value.slice A n c) else I b o)=some v
  rw[if_neg (by omega)]
  exact hv
 ·simp only[VR]
  refine⟨w.heap.size, .slice A n c,rfl,by simp,VR.mono (GLe.refl _) (fun b o v hv=> ?_) hx⟩
  have:=hlo b o v hv
  show (if b=w.heap.size∧o=0 then some (Value.slice A n c) else I b o)=some v
  rw[if_neg (by omega)]
  exact hv
 ·rw[RowKit.Below.heap_alloc _ _ _ (Array.getElem?_eq_some_iff.1 hy).1]
  exact hy
 ·replace hv:(if b=w.heap.size∧o=0 then some (Value.slice A n c) else I b o)=some v:=hv
  split at hv
  ·rename_i hbo
   obtain⟨rfl,rfl⟩:=hbo
   simp only[Option.some.injEq] at hv
   subst hv
   refine .inr ⟨j8 _, ?_⟩
   unfold World.cell?
   simp only[World.alloc_heap_new]
   rfl
  ·exact .inl hv
end Am
end Go.Proofs.YtkollgjffkdliaaGreatDoor
namespace Go.Proofs.YtkollgjffkdliaaGreatDoor.Am
open Go
set_option maxRecDepth 100000
section
abbrev Run:=Nat→ACode→St→Option (AEx×St)
def v9t (R R':Run):Prop:=∀ b c s r,R b c s=some r→R' b c s=some r
def x3q (C C':Caller):Prop:=∀ f asx h c r,C f asx h c=some r→C' f asx h c=some r
theorem q1e {R R':Run} (hR:v9t R R') {Γ:AProg}:x3q (z0o R Γ) (z0o R' Γ):=by
 intro f args h clk x hc
 unfold z0o at hc⊢
 split at hc
 ·exact hc
 ·split at hc
  ·cases hc
  ·rename_i af haf
   split at hc
   ·cases hc
   ·rename_i asx has
    dsimp only at hc⊢
    generalize hE:R h.length af.body ⟨q0u asx,maskFrom (reach h (h.length + 1) [] (idsL asx)) 0 (freezeAll h (z0p af.byref 0 args))++j1 af.nslots .dead,clk⟩=E at hc
    cases E with
    | none=>cases hc
    | some r=>
      rw[hR _ _ _ _ hE]
      exact hc
theorem x3r {C C':Caller} (hC:x3q C C') {base g:Nat} {o:AOper} {s r:St} (h:stepA C base g o s=some r):stepA C' base g o s=some r:=by
 obtain⟨dst,op,guard⟩:=o
 unfold stepA at h⊢
 split at h
 ·rename_i hw
  simp only at h
  cases op
  case call f args=>
   simp only at h⊢
   split at h
   ·rename_i v h' c hc
    rw[hC _ _ _ _ _ hc]
    exact h
   ·cases h
  case callv x args=>
   simp only at h⊢
   split at h
   ·split at h
    ·rename_i v h' c hc
     rw[hC _ _ _ _ _ hc]
     exact h
    ·cases h
   ·cases h
  all_goals exact h
 ·rename_i hw
  exact h
 ·cases h
theorem x0g {C C':Caller} (hC:x3q C C') {base:Nat}:∀ {os:List AOper} {g:Nat} {s r:St},z8z C base g os s=some r→z8z C' base g os s=some r
 | [],_,_,_,h=>h
 | o::os,g,s,r,h=>by
   simp only[z8z] at h⊢
   split at h
   ·rename_i s1 h1
    rw[x3r hC h1]
    exact x0g hC h
   ·cases h
theorem q2d {C C':Caller} (hC:x3q C C') {Γ:AProg} {base:Nat}:∀ {os:List AOper} {g:Nat} {s:St} {r},z3i C Γ base g os s=some r→z3i C' Γ base g os s=some r
 | [],_,_,_,h=>h
 | o::os,g,s,r,h=>by
   simp only[z3i] at h⊢
   split at h
   ·rename_i s1 h1
    rw[x3r hC h1]
    simp only[j7] at h⊢
    obtain⟨a,h2,h3⟩:=h
    exact⟨a,q2d hC h2,h3⟩
   ·cases h
theorem j1z {C C':Caller} (hC:x3q C C') {Γ:AProg} {base n:Nat} {ops:List AOper} {ps:List (Nat×Nat)} {s r:St} (h:region C Γ base n ops ps s=some r):region C' Γ base n ops ps s=some r:=by
 unfold region at h⊢
 cases ps with
 | nil=>exact x0g hC h
 | cons p ps=>
   simp only at h⊢
   split at h
   ·rename_i s1 fs h1
    rw[q2d hC h1]
    exact h
   ·cases h
theorem q4h {R R':St→Option (AEx×St)} (hR:∀ s r,R s=some r→R' s=some r) {v:AV} {ts:Tmps} {p q:Nat}:∀ {n:Nat} {m r},q1x R v ts p q n m=some r→q1x R' v ts p q n m=some r
 | 0,_,_,h=>h
 | n + 1,m,r,h=>by
   simp only[q1x] at h⊢
   split at h
   ·rename_i x hx
    split at h
    ·rename_i s hs
     rw[hR _ _ hs]
     exact q4h hR h
    ·cases h
   ·cases h
theorem k2d {Γ:AProg}:∀ k,v9t (z3z Γ k) (z3z Γ (k + 1)):=by
 intro k
 induction k with
 | zero=>intro b c s r h;cases h
 | succ k ih=>
   intro b c s r h
   cases c with
   | skip=>exact h
   | exit i=>exact h
   | ret=>exact h
   | bad=>exact h
   | region n ops ps=>
     rw[z3z] at h⊢
     simp only[j7] at h⊢
     obtain⟨a,h1,h2⟩:=h
     exact⟨a,j1z (q1e ih) h1,h2⟩
   | seq x y=>
     rw[z3z] at h⊢
     split at h
     ·rename_i s1 h1
      rw[ih _ _ _ _ h1]
      exact ih _ _ _ _ h
     ·rename_i hn
      cases hx:z3z Γ k b x s with
      | none=>rw[hx] at h;cases h
      | some q=>
        rw[ih _ _ _ _ hx]
        rw[hx] at h
        split
        ·rename_i s1 e1
         injection e1 with e1
         exact absurd (e1 ▸ hx) (hn s1)
        ·exact h
   | cond x y z=>
     rw[z3z] at h⊢
     split at h
     ·exact ih _ _ _ _ h
     ·cases h
   | block i x=>
     rw[z3z] at h⊢
     cases hx:z3z Γ k b x s with
     | none=>rw[hx] at h;cases h
     | some q=>
       rw[ih _ _ _ _ hx]
       rw[hx] at h
       exact h
   | loop x=>
     rw[z3z] at h⊢
     split at h
     ·rename_i s1 h1
      rw[ih _ _ _ _ h1]
      exact ih _ _ _ _ h
     ·rename_i hn
      cases hx:z3z Γ k b x s with
      | none=>rw[hx] at h;cases h
      | some q=>
        rw[ih _ _ _ _ hx]
        rw[hx] at h
        split
        ·rename_i s1 e1
         injection e1 with e1
         exact absurd (e1 ▸ hx) (hn s1)
        ·exact h
   | rangeB x p q a y=>
     rw[z3z] at h⊢
     split at h
     ·split at h
      ·split at h
       ·rename_i f v _ n hn hi
        simp only[hi,if_true]
        simp only[j7] at h⊢
        obtain⟨m,h1,h2⟩:=h
        refine⟨m,q4h ?_ h1,h2⟩
        intro s r hr
        split at hr
        ·rename_i s1 hs
         rw[ih _ _ _ _ hs]
         exact ih _ _ _ _ hr
        ·rename_i hn2
         cases hx:z3z Γ k b a s with
         | none=>rw[hx] at hr;cases hr
         | some q=>
           rw[ih _ _ _ _ hx]
           rw[hx] at hr
           split
           ·rename_i s1 e1
            injection e1 with e1
            exact absurd (e1 ▸ hx) (hn2 s1)
           ·exact hr
       ·cases h
      ·cases h
     ·cases h
theorem z9z {Γ:AProg} {k k':Nat} (h:k≤k'):v9t (z3z Γ k) (z3z Γ k'):=by
 induction h with
 | refl=>exact fun _ _ _ _ h=>h
 | step _ ih=>exact fun _ _ _ _ h=>k2d _ _ _ _ _ (ih _ _ _ _ h)
theorem x5m {Γ:AProg} {k k':Nat} (h:k≤k'):x3q (z5c Γ k) (z5c Γ k'):=q1e (z9z h)
theorem z8o {Γ:AProg} {k k' b:Nat} {c:ACode} {s:St} {r r'} (h:z3z Γ k b c s=some r) (h':z3z Γ k' b c s=some r'):r=r':=by
 have h1:=z9z (Nat.le_max_left k k') _ _ _ _ h
 have h2:=z9z (Nat.le_max_right k k') _ _ _ _ h'
 rw[h1] at h2
 injection h2
theorem x0h {Γ:AProg} {k k' f:Nat} {asx:List AV} {h:List AObj} {c:Nat} {r r'} (h1:z5c Γ k f asx h c=some r) (h2:z5c Γ k' f asx h c=some r'):r=r':=by
 have h1:=x5m (Nat.le_max_left k k') _ _ _ _ _ h1
 have h2:=x5m (Nat.le_max_right k k') _ _ _ _ _ h2
 rw[h1] at h2
 injection h2
abbrev Post:=AEx→St→Prop
inductive Kf where
 | seq (b:ACode)
 | block (id:Nat)
def Kf.next:Kf→AEx→ACode
 | .seq b, .norm=>b
 | .seq _, .exit i=> .exit i
 | .seq _, .ret=> .ret
 | .block _, .norm=> .skip
 | .block i, .exit j=>if j=i then .skip else .exit j
 | .block _, .ret=> .ret
def Kf.on:Kf→ACode→ACode
 | .seq b,a=> .seq a b
 | .block i,a=> .block i a
section
variable (Γ:AProg)
def W (base:Nat) (c:ACode) (s:St) (Q:Post):Prop:=∃ k e s',z3z Γ k base c s=some (e,s')∧Q e s'
def WC (f:Nat) (args:List AV) (h:List AObj) (clk:Nat) (Q:AV→List AObj→Nat→Prop):Prop:=∃ k v h' c,z5c Γ k f args h clk=some (v,h',c)∧Q v h' c
def K (base:Nat) (c:ACode):List Kf→St→Post→Prop
 | [],s,Q=>W Γ base c s Q
 | f::ks,s,Q=>W Γ base c s fun e s'=>K base (f.next e) ks s' Q
end
section
variable {Γ:AProg} {base:Nat}
theorem q7y {s:St} {Q:Post}:W Γ base .skip s Q=Q .norm s:=by
 refine propext ⟨?_,fun h=>⟨1,_,_,rfl,h⟩⟩
 rintro ⟨k,e,s',h,hq⟩
 obtain⟨rfl⟩:=z8o (k':=1) h rfl
 exact hq
theorem j4m {i:Nat} {s:St} {Q:Post}:W Γ base (.exit i) s Q=Q (.exit i) s:=by
 refine propext ⟨?_,fun h=>⟨1,_,_,rfl,h⟩⟩
 rintro ⟨k,e,s',h,hq⟩
 obtain⟨rfl⟩:=z8o (k':=1) h rfl
 exact hq
theorem k8b {s:St} {Q:Post}:W Γ base .ret s Q=Q .ret s:=by
 refine propext ⟨?_,fun h=>⟨1,_,_,rfl,h⟩⟩
 rintro ⟨k,e,s',h,hq⟩
 obtain⟨rfl⟩:=z8o (k':=1) h rfl
 exact hq
theorem g2d {f:Kf} {c:ACode} {s:St} {Q:Post}:W Γ base (f.on c) s Q=W Γ base c s fun e s'=>W Γ base (f.next e) s' Q:=by
 apply propext
 constructor
 ·rintro ⟨k,e,s',h,hq⟩
  cases k with
  | zero=>cases h
  | succ k=>
    cases f with
    | seq b=>
      rw[Kf.on,z3z] at h
      split at h
      ·rename_i s1 h1
       exact⟨k, .norm,s1,h1,k,e,s',h,hq⟩
      ·rename_i hn
       cases e with
       | norm=>exact absurd h (hn s')
       | exit i=>exact⟨k,_,_,h,1,_,_,rfl,hq⟩
       | ret=>exact⟨k,_,_,h,1,_,_,rfl,hq⟩
    | block i=>
      rw[Kf.on,z3z] at h
      split at h
      ·rename_i j s1 h1
       split at h
       ·rename_i hj
        injection h with h
        injection h with e1 e2
        subst e1;subst e2
        exact⟨k,_,_,h1,by simp only[Kf.next,if_pos hj];exact⟨1,_,_,rfl,hq⟩⟩
       ·rename_i hj
        injection h with h
        injection h with e1 e2
        subst e1;subst e2
        exact⟨k,_,_,h1,by simp only[Kf.next,if_neg hj];exact⟨1,_,_,rfl,hq⟩⟩
      ·rename_i hn
       cases e with
       | norm=>exact⟨k,_,_,h,1,_,_,rfl,hq⟩
       | exit j=>exact absurd h (hn j s')
       | ret=>exact⟨k,_,_,h,1,_,_,rfl,hq⟩
 ·rintro ⟨k,e,s1,h1,k',e',s',h2,hq⟩
  have h1':=z9z (Nat.le_max_left k k') _ _ _ _ h1
  have h2':=z9z (Nat.le_max_right k k') _ _ _ _ h2
  refine⟨max k k' + 1,e',s', ?_,hq⟩
  cases f with
  | seq b=>
    rw[Kf.on,z3z]
    simp only[h1']
    cases e with
    | norm=>exact h2'
    | exit i=>exact (congrArg some (z8o (k':=1) h2 rfl)).symm
    | ret=>exact (congrArg some (z8o (k':=1) h2 rfl)).symm
  | block i=>
    rw[Kf.on,z3z]
    simp only[h1']
    cases e with
    | norm=>exact (congrArg some (z8o (k':=1) h2 rfl)).symm
    | exit j=>
      simp only[Kf.next] at h2
      by_cases hj:j=i
      ·simp only[if_pos hj] at h2⊢
       exact (congrArg some (z8o (k':=1) h2 rfl)).symm
      ·simp only[if_neg hj] at h2⊢
       exact (congrArg some (z8o (k':=1) h2 rfl)).symm
    | ret=>exact (congrArg some (z8o (k':=1) h2 rfl)).symm
variable {ks:List Kf} {s s':St} {Q:Post} {c c':ACode}
theorem w7n (h:∀ Q,W Γ base c s Q=W Γ base c' s' Q):K Γ base c ks s Q=K Γ base c' ks s' Q:=by
 cases ks <;> exact h _
theorem u8u {f:Kf}:K Γ base (f.on c) ks s Q=K Γ base c (f::ks) s Q:=by
 cases ks <;> exact g2d
theorem v9u {a b:ACode}:K Γ base (.seq a b) ks s Q=K Γ base a (.seq b::ks) s Q:=u8u (f:= .seq b)
theorem v9v {i:Nat} {a:ACode}:K Γ base (.block i a) ks s Q=K Γ base a (.block i::ks) s Q:=u8u (f:= .block i)
theorem q6s {b:ACode}:K Γ base .skip (.seq b::ks) s Q=K Γ base b ks s Q:=q7y
theorem x9g {i:Nat}:K Γ base .skip (.block i::ks) s Q=K Γ base .skip ks s Q:=q7y
theorem j8u {b:ACode} {i:Nat}:K Γ base (.exit i) (.seq b::ks) s Q=K Γ base (.exit i) ks s Q:=j4m
theorem x9h {i j:Nat}:K Γ base (.exit j) (.block i::ks) s Q=K Γ base (if j=i then .skip else .exit j) ks s Q:=j4m
theorem k2e {b:ACode}:K Γ base .ret (.seq b::ks) s Q=K Γ base .ret ks s Q:=k8b
theorem j2a {i:Nat}:K Γ base .ret (.block i::ks) s Q=K Γ base .ret ks s Q:=k8b
theorem x3s:K Γ base .skip [] s Q=Q .norm s:=q7y
theorem x3t {i:Nat}:K Γ base (.exit i) [] s Q=Q (.exit i) s:=j4m
theorem x9i:K Γ base .ret [] s Q=Q .ret s:=k8b
def BK (Γ:AProg) (base:Nat) (x:AV) (a b:ACode) (ks:List Kf) (s:St) (Q:Post):Prop:=
 match x with
 | .bool true=>K Γ base a ks s Q
 | .bool false=>K Γ base b ks s Q
 | _=>False
theorem v9w {a b:ACode}:BK Γ base (.bool true) a b ks s Q=K Γ base a ks s Q:=(rfl)
theorem k8c {a b:ACode}:BK Γ base (.bool false) a b ks s Q=K Γ base b ks s Q:=(rfl)
theorem z8p {x:Bool} {a b:ACode} (ha:x=true→K Γ base a ks s Q) (hb:x=false→K Γ base b ks s Q):BK Γ base (.bool x) a b ks s Q:=by
 cases x
 ·exact hb rfl
 ·exact ha rfl
theorem w7o {x:AOpd} {a b:ACode}:W Γ base (.cond x a b) s Q=match x.ev s.ts with
  | .bool true=>W Γ base a s Q
  | .bool false=>W Γ base b s Q
  | _=>False:=by
 apply propext
 have key:∀ t,x.ev s.ts= .bool t→(W Γ base (.cond x a b) s Q↔W Γ base (if t then a else b) s Q):=by
  intro t ht
  constructor
  ·rintro ⟨k,e,s',h,hq⟩
   cases k with
   | zero=>cases h
   | succ k=>
     rw[z3z] at h
     simp only[ht] at h
     exact⟨k,e,s',h,hq⟩
  ·rintro ⟨k,e,s',h,hq⟩
   exact⟨k + 1,e,s',by rw[z3z];simp only[ht];exact h,hq⟩
 split
 ·rename_i h;exact key true h
 ·rename_i h;exact key false h
 ·rename_i h1 h2
  refine⟨?_,False.elim⟩
  rintro ⟨k,e,s',h,hq⟩
  cases k with
  | zero=>cases h
  | succ k=>
    rw[z3z] at h
    split at h
    ·rename_i t ht
     cases t
     ·exact h2 ht
     ·exact h1 ht
    ·cases h
theorem w7p {x:AOpd} {a b:ACode}:K Γ base (.cond x a b) ks s Q=BK Γ base (x.ev s.ts) a b ks s Q:=by
 unfold BK
 cases ks <;> · unfold K;rw[w7o]
def x0i (Γ:AProg) (base:Nat) (s:St) (o:AOper) (h':List AObj):List Nat×List Nat:=
 if z6d s.ts o.guard=some true then foot Γ s.h h' base s.ts o.op else ([],[])
def z1b (N:Nat) (ops:List AOper) (fs:List (List Nat×List Nat)) (ps:List (Nat×Nat)):Bool:=
 ps.all fun p=>apart (fs.getD p.1 ([],[])) (fs.getD p.2 ([],[])) && (!(z0z ops p.1 || z0z ops p.2) || ((z1d fs p.1++z1d fs p.2).all (· < N)))
inductive Md where
 | plain
 | draw (N:Nat) (ops:List AOper) (ps:List (Nat×Nat)) (fs:List (List Nat×List Nat))
def Md.add (f:List Nat×List Nat):Md→Md
 | .plain=> .plain
 | .draw N ops ps fs=> .draw N ops ps (fs++[f])
def Md.adds:Md→List (List Nat×List Nat)→Md
 | m,[]=>m
 | m,f::fs=>(m.add f).adds fs
def Md.ok:Md→Bool
 | .plain=>true
 | .draw N ops ps fs=>z1b N ops fs ps
def O (Γ:AProg) (base:Nat) (m:Md) (g:Nat) (os:List AOper) (s:St) (ks:List Kf) (Q:Post):Prop:=
 ∃ k s' fs,z3i (z0o (z3z Γ k) Γ) Γ base g os s=some (s',fs)∧(m.adds fs).ok=true∧K Γ base .skip ks s' Q
variable {m:Md} {g:Nat} {os:List AOper}
theorem x0j:O Γ base .plain g [] s ks Q=K Γ base .skip ks s Q:=by
 refine propext ⟨?_,fun h=>⟨0,s,[],rfl,rfl,h⟩⟩
 rintro ⟨k,s',fs,h,_,hq⟩
 simp only[z3i,Option.some.injEq,Prod.mk.injEq] at h
 obtain⟨rfl,rfl⟩:=h
 exact hq
theorem j8v {N:Nat} {ops:List AOper} {ps:List (Nat×Nat)} {fs:List (List Nat×List Nat)}:O Γ base (.draw N ops ps fs) g [] s ks Q=(z1b N ops fs ps=true∧K Γ base .skip ks s Q):=by
 refine propext ⟨?_,fun h=>⟨0,s,[],rfl,h.1,h.2⟩⟩
 rintro ⟨k,s',fs',h,h2,hq⟩
 simp only[z3i,Option.some.injEq,Prod.mk.injEq] at h
 obtain⟨rfl,rfl⟩:=h
 exact⟨h2,hq⟩
theorem q4i {C:Caller}:∀ {os:List AOper} {g:Nat} {s:St},(z3i C Γ base g os s).map (·.1)=z8z C base g os s
 | [],_,_=>rfl
 | o::os,g,s=>by
   simp only[z3i,z8z]
   split
   ·rw[←q4i]
    simp only[Option.map_map]
    rfl
   ·rfl
theorem x3u:∀ {fs:List (List Nat×List Nat)},(Md.plain.adds fs)= .plain
 | []=>rfl
 | _::fs=>x3u (fs:=fs)
theorem q5p {N:Nat} {ops:List AOper} {ps:List (Nat×Nat)}:∀ {fs gs:List (List Nat×List Nat)},(Md.draw N ops ps gs).adds fs= .draw N ops ps (gs++fs)
 | [],gs=>by rw[u5];rfl
 | f::fs,gs=>by
   simp only[Md.adds,Md.add]
   rw[q5p,List.append_assoc]
   rfl
theorem q3p {n:Nat}:W Γ base (.region n os []) s Q=∃ k s',z8z (z0o (z3z Γ k) Γ) base s.clk os ⟨s.ts,s.h,s.clk + n⟩=some s'∧Q .norm s':=by
 apply propext
 constructor
 ·rintro ⟨k,e,s',h,hq⟩
  cases k with
  | zero=>cases h
  | succ k=>
    rw[z3z] at h
    simp only[region,j7] at h
    obtain⟨a,h1,h2⟩:=h
    simp only[Prod.mk.injEq] at h2
    obtain⟨rfl,rfl⟩:=h2
    exact⟨k,a,h1,hq⟩
 ·rintro ⟨k,s',h,hq⟩
  exact⟨k + 1, .norm,s',by rw[z3z];simp only[region,h,k6],hq⟩
theorem q5q {n:Nat} {p:Nat×Nat} {ps:List (Nat×Nat)}:W Γ base (.region n os (p::ps)) s Q=∃ k s' fs,z3i (z0o (z3z Γ k) Γ) Γ base s.clk os ⟨s.ts,s.h,s.clk + n⟩=some (s',fs)∧z1b s.h.length os fs (p::ps)=true∧Q .norm s':=by
 apply propext
 constructor
 ·rintro ⟨k,e,s',h,hq⟩
  cases k with
  | zero=>cases h
  | succ k=>
    rw[z3z] at h
    simp only[region,j7] at h
    obtain⟨a,h1,h2⟩:=h
    simp only[Prod.mk.injEq] at h2
    obtain⟨rfl,rfl⟩:=h2
    split at h1
    ·rename_i s1 fs h3
     split at h1
     ·rename_i h4
      injection h1 with h1
      subst h1
      exact⟨k,s1,fs,h3,h4,hq⟩
     ·cases h1
    ·cases h1
 ·rintro ⟨k,s',fs,h,h2,hq⟩
  refine⟨k + 1, .norm,s', ?_,hq⟩
  unfold z1b at h2
  rw[z3z]
  simp only[region,h]
  rw[if_pos h2]
  rfl
theorem k8d {n:Nat}:K Γ base (.region n os []) ks s Q=O Γ base .plain s.clk os ⟨s.ts,s.h,s.clk + n⟩ ks Q:=by
 have key:∀ R:St→Prop,(∃ k s',z8z (z0o (z3z Γ k) Γ) base s.clk os ⟨s.ts,s.h,s.clk + n⟩=some s'∧R s')=∃ k s' fs,z3i (z0o (z3z Γ k) Γ) Γ base s.clk os ⟨s.ts,s.h,s.clk + n⟩=some (s',fs)∧(Md.plain.adds fs).ok=true∧R s':=by
  intro R
  apply propext
  constructor
  ·rintro ⟨k,s',h,hr⟩
   rw[←q4i (Γ:=Γ),j7] at h
   obtain⟨⟨s1,fs⟩,h1,rfl⟩:=h
   exact⟨k,s1,fs,h1,by rw[x3u];rfl,hr⟩
  ·rintro ⟨k,s',fs,h,_,hr⟩
   exact⟨k,s',by rw[←q4i (Γ:=Γ),h];rfl,hr⟩
 unfold O
 cases ks with
 | nil=>
   unfold K
   rw[q3p,key]
   simp only[q7y]
 | cons f ks=>
   unfold K
   rw[q3p,key]
   simp only[q7y]
theorem z1a {n:Nat} {p:Nat×Nat} {ps:List (Nat×Nat)}:K Γ base (.region n os (p::ps)) ks s Q=O Γ base (.draw s.h.length os (p::ps) []) s.clk os ⟨s.ts,s.h,s.clk + n⟩ ks Q:=by
 unfold O
 cases ks with
 | nil=>
   unfold K
   rw[q5q]
   simp only[q7y,q5p,d3,Md.ok]
 | cons f ks=>
   unfold K
   rw[q5q]
   simp only[q7y,q5p,d3,Md.ok]
theorem v4j {o:AOper} {s1:St} (h:∀ k,stepA (z0o (z3z Γ k) Γ) base g o s=some s1):O Γ base m g (o::os) s ks Q=O Γ base (m.add (x0i Γ base s o s1.h)) (g + 1) os s1 ks Q:=by
 unfold O
 apply propext
 constructor
 ·rintro ⟨k,s',fs,h1,h2,h3⟩
  simp only[z3i,h k,j7] at h1
  obtain⟨⟨s2,fs2⟩,h4,h5⟩:=h1
  simp only[Prod.mk.injEq] at h5
  obtain⟨rfl,rfl⟩:=h5
  exact⟨k,s2,fs2,h4,h2,h3⟩
 ·rintro ⟨k,s',fs,h1,h2,h3⟩
  exact⟨k,s',x0i Γ base s o s1.h::fs,by simp only[z3i,h k,h1,k6];rfl,h2,h3⟩
theorem j2b {o:AOper} (h:∀ k,stepA (z0o (z3z Γ k) Γ) base g o s=none):O Γ base m g (o::os) s ks Q=False:=by
 unfold O
 refine propext ⟨?_,False.elim⟩
 rintro ⟨k,s',fs,h1,_⟩
 simp only[z3i,h k] at h1
 cases h1
variable {ts:Tmps} {h:List AObj} {clk:Nat} {dst:Option Nat}
def PO (Γ:AProg) (base:Nat) (x:Option (AV×List AObj)) (f:List Nat×List Nat) (m:Md) (dst:Option Nat) (g:Nat) (os:List AOper) (ts:Tmps) (clk:Nat) (ks:List Kf) (Q:Post):Prop:=
 match x with
 | some (v,h')=>O Γ base (m.add f) (g + 1) os ⟨z8t ts dst v,h',clk⟩ ks Q
 | none=>False
theorem z6j {op:AOp} (hop:op.isCall=false):O Γ base m g (⟨dst,op,none⟩::os) ⟨ts,h,clk⟩ ks Q=PO Γ base (prim h base g ts op) (foot Γ [] [] base ts op) m dst g os ts clk ks Q:=by
 have hf:∀ h',x0i Γ base ⟨ts,h,clk⟩ ⟨dst,op,none⟩ h'=foot Γ [] [] base ts op:=by
  intro h'
  cases op <;> first | rfl | cases hop
 have hs:∀ k,stepA (z0o (z3z Γ k) Γ) base g ⟨dst,op,none⟩ ⟨ts,h,clk⟩=match prim h base g ts op with
   | some (v,h')=>some ⟨z8t ts dst v,h',clk⟩
   | none=>none:=by
  intro k
  cases op <;> first | rfl | cases hop
 unfold PO
 split
 ·rename_i v h' hp
  rw[v4j (s1:=⟨z8t ts dst v,h',clk⟩) (fun k=>by rw[hs k,hp]),hf]
 ·rename_i hp
  exact j2b (fun k=>by rw[hs k,hp])
def gW (x:AV) (b:Bool):Option Bool:=
 match x with
 | .bool y=>some (y==b)
 | .tup []=>some false
 | _=>none
theorem v9x {y b:Bool}:gW (.bool y) b=some (y==b):=(rfl)
theorem w7q {b:Bool}:gW (.tup []) b=some false:=(rfl)
def GO (Γ:AProg) (base:Nat) (w:Option Bool) (op:AOp) (m:Md) (dst:Option Nat) (g:Nat) (os:List AOper) (s:St) (ks:List Kf) (Q:Post):Prop:=
 match w with
 | some true=>O Γ base m g (⟨dst,op,none⟩::os) s ks Q
 | some false=>O Γ base (m.add ([],[])) (g + 1) os ⟨z8t s.ts dst (.tup []),s.h,s.clk⟩ ks Q
 | none=>False
theorem v9y {op:AOp}:GO Γ base (some true) op m dst g os s ks Q=O Γ base m g (⟨dst,op,none⟩::os) s ks Q:=(rfl)
theorem k8e {op:AOp}:GO Γ base (some false) op m dst g os ⟨ts,h,clk⟩ ks Q=O Γ base (m.add ([],[])) (g + 1) os ⟨z8t ts dst (.tup []),h,clk⟩ ks Q:=(rfl)
theorem v9z {op:AOp} {t:Nat} {b:Bool}:O Γ base m g (⟨dst,op,some (t,b)⟩::os) ⟨ts,h,clk⟩ ks Q=GO Γ base (gW (ts t) b) op m dst g os ⟨ts,h,clk⟩ ks Q:=by
 have hw:z6d ts (some (t,b))=gW (ts t) b:=rfl
 unfold GO
 split
 ·rename_i h1
  rw[h1] at hw
  unfold O
  have:∀ k,z3i (z0o (z3z Γ k) Γ) Γ base g (⟨dst,op,some (t,b)⟩::os) ⟨ts,h,clk⟩=z3i (z0o (z3z Γ k) Γ) Γ base g (⟨dst,op,none⟩::os) ⟨ts,h,clk⟩:=by
   intro k
   have h2:z6d ts none=some true:=rfl
   simp only[z3i,stepA,hw,h2]
  simp only[this]
 ·rename_i h1
  rw[h1] at hw
  rw[v4j (s1:=⟨z8t ts dst (.tup []),h,clk⟩) (fun k=>by simp only[stepA,hw])]
  simp only[x0i,hw,Option.some.injEq,y6,if_false]
 ·rename_i h1
  rw[h1] at hw
  exact j2b (fun k=>by simp only[stepA,hw])
def CK (Γ:AProg) (base f:Nat) (asx:List AV) (h:List AObj) (clk:Nat) (m:Md) (dst:Option Nat) (g:Nat) (os:List AOper) (ts:Tmps) (ks:List Kf) (Q:Post):Prop:=
 WC Γ f asx h clk fun v h' c=>O Γ base (m.add (z3q (z0y Γ f asx h) h h')) (g + 1) os ⟨z8t ts dst v,h',c⟩ ks Q
theorem k2f {o:AOper} {f:Nat} {asx:List AV} (hs:∀ k,stepA (z0o (z3z Γ k) Γ) base g o ⟨ts,h,clk⟩=match z5c Γ k f asx h clk with
   | some (v,h',c)=>some ⟨z8t ts o.dst v,h',c⟩
   | none=>none) (hf:∀ h',x0i Γ base ⟨ts,h,clk⟩ o h'=z3q (z0y Γ f asx h) h h'):O Γ base m g (o::os) ⟨ts,h,clk⟩ ks Q=CK Γ base f asx h clk m o.dst g os ts ks Q:=by
 unfold CK
 apply propext
 constructor
 ·rintro ⟨k,s',fs,h1,h2,h3⟩
  simp only[z3i,hs k] at h1
  cases hc:z5c Γ k f asx h clk with
  | none=>rw[hc] at h1;cases h1
  | some r=>
    obtain⟨v,h',c⟩:=r
    rw[hc] at h1
    simp only[j7] at h1
    obtain⟨⟨s2,fs2⟩,h4,h5⟩:=h1
    simp only[Prod.mk.injEq] at h5
    obtain⟨rfl,rfl⟩:=h5
    refine⟨k,v,h',c,hc,k,s2,fs2,h4, ?_,h3⟩
    rw[←hf]
    exact h2
 ·rintro ⟨k,v,h',c,hc,k',s2,fs2,h4,h2,h3⟩
  refine⟨max k k',s2,x0i Γ base ⟨ts,h,clk⟩ o h'::fs2, ?_,by rw[hf];exact h2,h3⟩
  simp only[z3i,hs,x5m (Nat.le_max_left k k') _ _ _ _ _ hc,q2d (q1e (z9z (Nat.le_max_right k k'))) h4,k6]
  rfl
theorem w7r {f:Nat} {args:List AOpd}:O Γ base m g (⟨dst, .call f args,none⟩::os) ⟨ts,h,clk⟩ ks Q=CK Γ base f (args.map (·.ev ts)) h clk m dst g os ts ks Q:=
 k2f (fun _=>rfl) (fun _=>rfl)
def VK (Γ:AProg) (base:Nat) (x:AV) (asx:List AV) (h:List AObj) (clk:Nat) (m:Md) (dst:Option Nat) (g:Nat) (os:List AOper) (ts:Tmps) (ks:List Kf) (Q:Post):Prop:=
 match x with
 | .fn f cap=>CK Γ base f (asx++cap) h clk m dst g os ts ks Q
 | _=>False
theorem u1v {f:Nat} {cap asx:List AV}:VK Γ base (.fn f cap) asx h clk m dst g os ts ks Q=CK Γ base f (asx++cap) h clk m dst g os ts ks Q:=(rfl)
theorem w0a {x:AOpd} {args:List AOpd}:O Γ base m g (⟨dst, .callv x args,none⟩::os) ⟨ts,h,clk⟩ ks Q=VK Γ base (x.ev ts) (args.map (·.ev ts)) h clk m dst g os ts ks Q:=by
 unfold VK
 split
 ·rename_i f cap hx
  refine k2f (fun k=> ?_) (fun h'=> ?_)
  ·simp only[stepA,z6d,hx]
   rfl
  ·simp only[x0i,z6d,foot,hx,if_true]
 ·rename_i hn
  refine j2b (fun k=> ?_)
  simp only[stepA,z6d]
def Pure (Γ:AProg) (f:Nat) (args:List AV) (v:AV):Prop:=∀ h clk,(∃ k,z5c Γ k f args h clk=some (v,h,clk))∧z0y Γ f args h=[]
theorem z0a {f:Nat} {asx:List AV} {v:AV} (hp:Pure Γ f asx v):CK Γ base f asx h clk m dst g os ts ks Q=O Γ base (m.add ([],[])) (g + 1) os ⟨z8t ts dst v,h,clk⟩ ks Q:=by
 obtain⟨⟨k,hk⟩,hf⟩:=hp h clk
 unfold CK
 apply propext
 constructor
 ·rintro ⟨k',v',h',c,hc,hq⟩
  have:=x0h hk hc
  simp only[Prod.mk.injEq] at this
  obtain⟨rfl,rfl,rfl⟩:=this
  rw[hf] at hq
  exact hq
 ·intro hq
  refine⟨k,v,h,clk,hk, ?_⟩
  rw[hf]
  exact hq
theorem z1t {b:ACode} (I:Nat→St→Prop) (n:Nat) (h0:I n s)
  (hstep:∀ m s (P:Post),I m s→(∀ m' s',m' < m→I m' s'→P .norm s')→(∀ i s',K Γ base (.exit i) ks s' Q→P (.exit i) s')→(∀ s',K Γ base .ret ks s' Q→P .ret s')→K Γ base b [] s P):K Γ base (.loop b) ks s Q:=by
 have key:∀ R:Post,(∀ m s (P:Post),I m s→(∀ m' s',m' < m→I m' s'→P .norm s')→(∀ i s',R (.exit i) s'→P (.exit i) s')→(∀ s',R .ret s'→P .ret s')→W Γ base b s P)→W Γ base (.loop b) s R:=by
  intro R hst
  clear hstep
  induction n using Nat.strongRecOn generalizing s with
  | ind n ih=>
    obtain⟨k,e,s1,h1,h2⟩:=hst n s (fun e s'=>match e with
     | .norm=>∃ m',m' < n∧I m' s'
     | e=>R e s') h0 (fun m' s' hm hi=>⟨m',hm,hi⟩) (fun i s' h=>h) (fun s' h=>h)
    cases e with
    | norm=>
      obtain⟨m',hm,hi⟩:=h2
      obtain⟨k2,e2,s2,h3,h4⟩:=ih m' hm hi
      refine⟨max k k2 + 1,e2,s2, ?_,h4⟩
      rw[z3z]
      simp only[z9z (Nat.le_max_left k k2) _ _ _ _ h1]
      exact z9z (Nat.le_max_right k k2) _ _ _ _ h3
    | exit i=>exact⟨k + 1, .exit i,s1,by rw[z3z];simp only[h1],h2⟩
    | ret=>exact⟨k + 1, .ret,s1,by rw[z3z];simp only[h1],h2⟩
 cases ks with
 | nil=>
   refine key Q fun m s P hi hn he hr=>hstep m s P hi hn (fun i s' h=> ?_) (fun s' h=> ?_)
   ·exact he i s' (by rw[x3t] at h;exact h)
   ·exact hr s' (by rw[x9i] at h;exact h)
 | cons f ks=>
   refine key _ fun m s P hi hn he hr=>hstep m s P hi hn (fun i s' h=> ?_) (fun s' h=> ?_)
   ·refine he i s' ?_
    unfold K at h
    rw[j4m] at h
    exact h
   ·refine hr s' ?_
    unfold K at h
    rw[k8b] at h
    exact h
theorem k8f {x:AOpd} {p q:Nat} {a b:ACode} {f n:Nat} {v:AV} (hx:x.ev s.ts= .bwd f v) (hn:z7h v=some n) (hf:Γ.iters.contains f=true) (J:Nat→List AObj→Nat→Prop)
  (h0:J n s.h s.clk) (hstep:∀ i h c (P:Post),i < n→J (i + 1) h c→(∀ s',J i s'.h s'.clk→P .norm s')→∃ xv,q7n h v i=some xv∧K Γ base a [.seq b] ⟨upd (upd s.ts p (.int .i64 i)) q xv,h,c⟩ P)
  (hQ:∀ h c,J 0 h c→K Γ base .skip ks ⟨s.ts,h,c⟩ Q):K Γ base (.rangeB x p q a b) ks s Q:=by
 have key:∀ i h c,i≤n→J i h c→∃ h' c',J 0 h' c'∧∃ k,q1x (fun s=>match z3z Γ k base a s with
   | some (.norm,s')=>z3z Γ k base b s'
   | r=>r) v s.ts p q i (h,c)=some (h',c'):=by
  intro i
  induction i with
  | zero=>intro h c _ hj;exact⟨h,c,hj,0,rfl⟩
  | succ i ih=>
    intro h c hi hj
    obtain⟨xv,hxv,hw⟩:=hstep i h c (fun e s'=>e= .norm∧J i s'.h s'.clk) (by omega) hj (fun s' h=>⟨rfl,h⟩)
    rw[←v9u] at hw
    obtain⟨k,e,s1,h1,rfl,hj2⟩:=hw
    obtain⟨h',c',h5,k2,h6⟩:=ih s1.h s1.clk (by omega) hj2
    cases k with
    | zero=>cases h1
    | succ k=>
    rw[z3z] at h1
    have hle:∀ {k k':Nat},k≤k'→∀ s r,(match z3z Γ k base a s with
     | some (.norm,s')=>z3z Γ k base b s'
     | r=>r)=some r→(match z3z Γ k' base a s with
     | some (.norm,s')=>z3z Γ k' base b s'
     | r=>r)=some r:=by
     intro k k' hk s r hr
     cases hx:z3z Γ k base a s with
     | none=>rw[hx] at hr;cases hr
     | some q=>
       rw[hx] at hr
       rw[z9z hk _ _ _ _ hx]
       obtain⟨e,s2⟩:=q
       cases e with
       | norm=>exact z9z hk _ _ _ _ hr
       | exit i=>exact hr
       | ret=>exact hr
    refine⟨h',c',h5,max k k2, ?_⟩
    simp only[q1x,hxv]
    rw[hle (Nat.le_max_left k k2) _ _ h1]
    exact q4h (hle (Nat.le_max_right k k2)) h6
 obtain⟨h',c',h1,k,h2⟩:=key n s.h s.clk (j8 _) h0
 have:=hQ h' c' h1
 have e1:z3z Γ (k + 1) base (.rangeB x p q a b) s=some (.norm,⟨s.ts,h',c'⟩):=by
  rw[z3z]
  simp only[hx,hn,hf,if_true]
  exact congrArg (Option.map fun m=>(AEx.norm,(⟨s.ts,m.1,m.2⟩:St))) h2
 cases ks with
 | nil=>
   rw[x3s] at this
   exact⟨k + 1,_,_,e1,this⟩
 | cons f ks=>
   unfold K at this
   rw[q7y] at this
   exact⟨k + 1,_,_,e1,this⟩
end
end
section
mutual
def AV.cv:AV→AV
 | .agg cs=> .agg (cvL cs)
 | .tup cs=> .tup (cvL cs)
 | .sl xs _=> .sl xs .no
 | v=>v
def cvL:List AV→List AV
 | []=>[]
 | v::vs=>v.cv::cvL vs
end
mutual
theorem q4j {h:List AObj}:∀ {v:AV},v.obs=[]→conv h v=some v.cv
 | .agg cs,ho=>by
   simp only[conv,AV.cv,q5r (by simpa only[AV.obs] using ho),k6]
 | .tup cs,ho=>by
   simp only[conv,AV.cv,q5r (by simpa only[AV.obs] using ho),k6]
 | .ob ..,ho=>by simp[AV.obs] at ho
 | .sl _ _,_=>rfl
 | .undef,_=>rfl
 | .int ..,_=>rfl
 | .bool _,_=>rfl
 | .str _,_=>rfl
 | .ptr ..,_=>rfl
 | .iptr ..,_=>rfl
 | .nilptr,_=>rfl
 | .mp ..,_=>rfl
 | .nilmap,_=>rfl
 | .fn ..,_=>rfl
 | .nilfn,_=>rfl
 | .nilif,_=>rfl
 | .bwd ..,_=>rfl
theorem q5r {h:List AObj}:∀ {vs:List AV},z3x vs=[]→z8k h vs=some (cvL vs)
 | [],_=>rfl
 | v::vs,ho=>by
   simp only[z3x,z02] at ho
   simp only[z8k,cvL,q4j ho.1,q5r ho.2]
end
theorem z1p {h:List AObj}:∀ {vs:List AV} {i:Nat},z3x vs=[]→z1i h [] i vs=some (cvL vs)
 | [],_,_=>rfl
 | v::vs,i,ho=>by
   simp only[z3x,z02] at ho
   simp only[z1i,cvL,List.contains_nil,y6,if_false,q4j ho.1,z1p ho.2]
theorem z4s:∀ {vs:List AV} {i:Nat},z3x vs=[]→z0p [] i vs=[]
 | [],_,_=>rfl
 | v::vs,i,ho=>by
   simp only[z3x,z02] at ho
   simp only[z0p,List.contains_nil,y6,if_false,ho.1,z4s ho.2,u5]
theorem z5f {T:List Nat}:∀ {h:List AObj} {k:Nat},(maskFrom T k h).length=h.length
 | [],_=>rfl
 | o::h,k=>by simp[maskFrom,z5f]
theorem x0k {T:List Nat}:∀ {h:List AObj} {k i:Nat},T.contains (k + i)=true→(maskFrom T k h)[i]? =h[i]?
 | [],_,_,_=>rfl
 | o::h,k,0,ht=>by
   rw[l9] at ht
   simp only[maskFrom,ht,if_true,List.getElem?_cons_zero]
 | o::h,k,i + 1,ht=>by
   simp only[maskFrom,i9]
   exact x0k (by rw[Nat.add_assoc,Nat.add_comm 1 i];exact ht)
theorem z7w:∀ {h h':List AObj} {k:Nat},z0u [] k h h'=h
 | [],[],_=>rfl
 | [],_::_,_=>rfl
 | o::h,[],_=>rfl
 | o::h,o'::h',k=>by simp[z0u,z7w]
theorem x9j {s:Nat}:∀ {h h':List AObj} {k:Nat} {o:AObj},s < h.length→h'[s]? =some o→z0u [k + s] k h h'=h.set s o
 | [],h',k,o,hs,_=>by simp at hs
 | a::h,[],k,o,hs,ho=>by simp at ho
 | a::h,b::h',k,o,hs,ho=>by
   cases s with
   | zero=>
     simp at ho
     subst ho
     have:∀ {h h':List AObj} {j:Nat},k < j→z0u [k] j h h'=h:=by
      intro h
      induction h with
      | nil=>intro h' j _;cases h' <;> rfl
      | cons x h ih=>
        intro h' j hj
        cases h' with
        | nil=>rfl
        | cons y h'=>
          have hne:¬ j=k:=by omega
          simp only[z0u,List.contains_cons,List.contains_nil,Bool.or_false,beq_iff_eq,hne,if_false]
          rw[ih (by omega)]
     simp only[z0u,l9,List.contains_cons,List.contains_nil,Bool.or_false,beq_self_eq_true,if_true,List.set_cons_zero]
     rw[this (by omega)]
   | succ s=>
     have hne:¬ k=k + (s + 1):=by omega
     simp only[z0u,List.contains_cons,List.contains_nil,Bool.or_false,beq_iff_eq,hne,if_false,List.set_cons_succ]
     rw[show k + (s + 1)=k + 1 + s by omega,x9j (by simpa using hs) (by simpa using ho)]
def x3v (T:List Nat) (os:List (Nat×Nat)):Bool:=os.all fun p=> !T.contains p.1
def RV (T:List Nat) (x:Option (List AV)) (R:AV→List AObj→Prop) (h:List AObj):Prop:=
 match x with
 | some vs=>∃ v,conv h (z1j vs)=some v∧v.ids=[]∧x3v T (z1j vs).obs=true∧R v h
 | none=>False
def k0o (T:List Nat) (rs:List ARes) (R:AV→List AObj→Prop):Post:=fun e s=>(∀ i,e≠ .exit i)∧RV T (z1y s.h s.ts rs) R s.h
theorem z0h {T:List Nat} {vs:List AV} {R:AV→List AObj→Prop} {h:List AObj} (ho:(z1j vs).obs=[]) (hi:(z1j vs).cv.ids=[]):RV T (some vs) R h=R (z1j vs).cv h:=by
 apply propext
 constructor
 ·rintro ⟨v,h1,_,_,h2⟩
  rw[q4j ho] at h1
  injection h1 with h1
  subst h1
  exact h2
 ·exact fun hr=>⟨_,q4j ho,hi,by rw[ho];rfl,hr⟩
section
variable {Γ:AProg}
theorem q3c {s:Nat}:∀ {os:List (Nat×Nat)} {h:List AObj},os.all (fun p=> !([s].contains p.1))=true→(freezeAll h os)[s]? =h[s]?
 | [],_,_=>rfl
 | o::os,h,ho=>by
   simp only[List.all_cons,b8,p7] at ho
   simp only[freezeAll]
   rw[q3c (by simpa using ho.2)]
   have hne:o.1≠s:=by
    have:=ho.1
    simp at this
    exact this
   split
   ·rw[List.getElem?_set_ne hne]
   ·rfl
theorem q8t {T:List Nat} {rs:List ARes} {R:AV→List AObj→Prop} {e:AEx} {s:St} (h:k0o T rs R e s):(∀ i,e≠ .exit i)∧∃ vs v,z1y s.h s.ts rs=some vs∧conv s.h (z1j vs)=some v∧v.ids=[]∧x3v T (z1j vs).obs=true∧R v s.h:=by
 obtain⟨h1,h2⟩:=h
 refine⟨h1, ?_⟩
 unfold RV at h2
 split at h2
 ·rename_i vs hv
  obtain⟨v,h3,h4,h5,h6⟩:=h2
  exact⟨vs,v,hv,h3,h4,h5,h6⟩
 ·exact h2.elim
theorem k8g {T:List Nat} {rs:List ARes} {R:AV→List AObj→Prop} {ts:Tmps} {h:List AObj} {c:Nat}:k0o T rs R .ret ⟨ts,h,c⟩=RV T (z1y h ts rs) R h:=by
 simp[k0o]
theorem k2g {T:List Nat} {rs:List ARes} {R:AV→List AObj→Prop} {ts:Tmps} {h:List AObj} {c:Nat}:k0o T rs R .norm ⟨ts,h,c⟩=RV T (z1y h ts rs) R h:=by
 simp[k0o]
theorem x0l {f:Nat} {args az:List AV} {h:List AObj} {clk:Nat} {af:AFun} {Q:AV→List AObj→Nat→Prop} (hext:Γ.ext f=none) (hfn:Γ.fn f=some af) (hb:af.byref=[]) (ho:af.owned=false) (hobs:z3x args=[]) (has:cvL args=az) (hids:idsL az=[])
  (hw:∀ (D:List AObj) (B:Nat) (R:AV→List AObj→Prop),D.length=B→(∀ v h',Q v h clk→R v h')→K Γ B af.body [] ⟨q0u az,D++j1 af.nslots .dead,clk⟩ (k0o [] af.results fun v h'=>R v h')):WC Γ f args h clk Q:=by
 obtain⟨k,e,s,he,hend⟩:=hw (maskFrom [] 0 h) _ (fun v _=>Q v h clk) rfl (fun _ _ h=>h)
 obtain⟨hne,vs,v,hr,hc,hv,_,hQ⟩:=q8t hend
 rw[z5f] at he
 refine⟨k,v,h,clk, ?_,hQ⟩
 have hp:z1i h af.byref 0 args=some az:=by rw[hb,z1p hobs,has]
 have hl:z0p af.byref 0 args=[]:=by rw[hb];exact z4s hobs
 unfold z5c z0o
 simp only[hext,hfn,hp,hl,freezeAll,hids,reach,he,ho,y6,if_false,hr,hc,z7w]
 cases e with
 | exit i=>exact absurd rfl (hne i)
 | norm=>simp[hv]
 | ret=>simp[hv]
theorem q5s {f:Nat} {args az:List AV} {h:List AObj} {af:AFun} (hfn:Γ.fn f=some af) (hb:af.byref=[]) (hobs:z3x args=[]) (has:cvL args=az) (hids:idsL az=[]):z0y Γ f args h=[]:=by
 unfold z0y
 rw[hobs]
 cases Γ.ext f with
 | some _=>rfl
 | none=>
   have hp:z1i h af.byref 0 args=some az:=by rw[hb,z1p hobs,has]
   simp only[hfn,hp,hids,reach]
   rfl
theorem Pure.of {f:Nat} {args az:List AV} {v:AV} {af:AFun} (hext:Γ.ext f=none) (hfn:Γ.fn f=some af) (hb:af.byref=[]) (ho:af.owned=false) (hobs:z3x args=[]) (has:cvL args=az) (hids:idsL az=[])
  (hw:∀ (D:List AObj) (B clk:Nat) (R:AV→List AObj→Prop),D.length=B→(∀ h',R v h')→K Γ B af.body [] ⟨q0u az,D++j1 af.nslots .dead,clk⟩ (k0o [] af.results R)):Pure Γ f args v:=fun h clk=>by
 refine⟨?_,q5s hfn hb hobs has hids⟩
 obtain⟨k,v',h',c,he,rfl,rfl,rfl⟩:=x0l (Q:=fun v' h' c'=>v'=v∧h'=h∧c'=clk) hext hfn hb ho hobs has hids (fun D B R hB hR=>hw D B clk R hB (fun h'=>hR v h' ⟨rfl,rfl,rfl⟩))
 exact⟨k,he⟩
theorem j4n {T:List Nat}:∀ {h:List AObj} {k i:Nat},T.contains (k + i)=true→(maskFrom T k h)[i]? =h[i]?
 | [],_,_,_=>rfl
 | o::h,k,0,hc=>by
   rw[l9] at hc
   simp only[maskFrom,hc,if_true,List.getElem?_cons_zero]
 | o::h,k,i + 1,hc=>by
   simp only[maskFrom,i9]
   exact j4n (by rw[Nat.add_assoc,Nat.add_comm 1 i];exact hc)
theorem w7s {f s:Nat} {args az:List AV} {h:List AObj} {clk:Nat} {af:AFun} {obj:AObj} {Q:AV→List AObj→Nat→Prop} (hext:Γ.ext f=none) (hfn:Γ.fn f=some af) (hb:af.byref=[]) (ho:af.owned=false) (hobs:z3x args=[]) (has:cvL args=az) (hids:idsL az=[s]) (hs:h[s]? =some obj) (hoi:obj.ids=[])
  (hw:∀ (D:List AObj) (B:Nat) (R:AV→List AObj→Prop),D.length=B→D[s]? =some obj→s < B→(∀ v h' o',h'[s]? =some o'→o'.ids=[]→Q v (h.set s o') clk→R v h')→K Γ B af.body [] ⟨q0u az,D++j1 af.nslots .dead,clk⟩ (k0o [s] af.results R)):WC Γ f args h clk Q:=by
 have hlt:s < h.length:=by
  rw[List.getElem?_eq_some_iff] at hs
  exact hs.1
 have hp:z1i h af.byref 0 args=some az:=by rw[hb,z1p hobs,has]
 have hl:z0p af.byref 0 args=[]:=by rw[hb];exact z4s hobs
 obtain⟨k,e,s1,he,hend⟩:=hw (maskFrom [s] 0 h) _ (fun v h'=>∃ o',h'[s]? =some o'∧o'.ids=[]∧Q v (h.set s o') clk) rfl (by rw[j4n (by simp)];exact hs) (by rw[z5f];exact hlt) (fun v h' o' h1 h2 h3=>⟨o',h1,h2,h3⟩)
 obtain⟨hne,vs,v,hr,hc,hv,hno,o',h1,h2,hQ⟩:=q8t hend
 rw[z5f] at he
 refine⟨k,v,h.set s o',clk, ?_,hQ⟩
 have hreach:reach h (h.length + 1) [] [s]=[s]:=by
  simp only[reach,List.contains_nil,y6,if_false,hs,k6,hoi,n5,d3]
  cases h.length <;> rfl
 have hfr:(freezeAll s1.h (z1j vs).obs)[s]? =some o':=by
  rw[q3c (by simpa [x3v] using hno),h1]
 have hm:z0u [s] 0 h (freezeAll s1.h (z1j vs).obs)=h.set s o':=by
  have:=x9j (s:=s) (h:=h) (h':=freezeAll s1.h (z1j vs).obs) (k:=0) hlt hfr
  rw[y4] at this
  exact this
 unfold z5c z0o
 simp only[hext,hfn,hp,hl,freezeAll,hids,hreach,he,ho,y6,if_false,hr,hc,List.isEmpty_cons,Bool.and_false,hm]
 have hall:((v.ids++(List.map (fun i=>(Option.map AObj.ids (freezeAll s1.h (z1j vs).obs)[i]?).getD []) [s]).flatten).all fun x=>decide (x < h.length))=true:=by
  simp[hv,hfr,h2]
 cases e with
 | exit i=>exact absurd rfl (hne i)
 | norm=>simp only[hall,if_true]
 | ret=>simp only[hall,if_true]
section
variable {h:List AObj} {base g:Nat} {ts:Tmps}
def k2h (h:List AObj):AV→AV→AV→Option (AV×List AObj)
 | .bool t,a,b=>some (if t then a else b,h)
 | _,_,_=>none
def w0b (h:List AObj) (slot g:Nat) (v:AV):Option (AV×List AObj):=
 if v.cells.isEmpty || !v.def? then none else some (.ptr slot g 0 0,h.set slot (.blk g [v] false false 0))
def z9e (h:List AObj) (sz:Option Nat):AV→Option (AV×List AObj)
 | .ptr s g i o=>match z1u h s g with
   | some (es,_,_,_)=>(es[i]?).bind fun e=>(z1x e.cells o sz).map (·,h)
   | none=>none
 | .iptr cs o=>(z1x cs o sz).map (·,h)
 | _=>none
def z5q (h:List AObj) (sz:Nat) (v:AV):AV→Option (AV×List AObj)
 | .ptr s g i o=>match z1u h s g with
   | some (es,row,grow,fz)=>
     match es[i]?,(if row then pub h v else some (v,h)) with
     | some e,some (v',h')=>
       if v'.def? =true∧v'.cells.length=sz∧v'.cells.all AV.one=true∧(row=true→fz≤i∧ !(v.obs.map (·.1)).contains s) then
        (z8f e.cells o v'.cells).map fun cs=>(.undef,h'.set s (.blk g (es.set i (z7t e cs)) row grow fz))
       else none
     | _,_=>none
   | none=>none
 | _=>none
def k2i (h:List AObj) (o:Nat):AV→Option (AV×List AObj)
 | .ptr s g i p=>some (.ptr s g i (p + o),h)
 | .iptr cs p=>some (.iptr cs (p + o),h)
 | _=>none
def k8h (h:List AObj):AV→Option (AV×List AObj)
 | .ptr s g i o=>some (.ptr s g i o,h)
 | .iptr cs o=>some (.iptr cs o,h)
 | _=>none
def u1f (h:List AObj) (i:Nat):AV→Option (AV×List AObj)
 | .tup cs=>(cs[i]?).map (·,h)
 | _=>none
def z7i (h:List AObj) (op:BinOp) (t:ETy) (x y:AV):Option (AV×List AObj):=(z4p op t x y).map (·,h)
def v4k (h:List AObj) (t:LenTy) (x:AV):Option (AV×List AObj):=(q0b h t x).map (·,h)
def unV (h:List AObj) (op:UnOp) (x:AV):Option (AV×List AObj):=(k7d op x).map (·,h)
def w0c (h:List AObj) (k:IntKind):AV→Option (AV×List AObj)
 | .int _ n=>some (.int k (k.wrap n),h)
 | _=>none
def z1m (h:List AObj) (esz:Nat):AV→AV→Option (AV×List AObj)
 | .sl xs _, .int _ i=>if 0≤i then match xs[i.toNat]? with
   | some e=>if e.cells.length=esz then some (.iptr e.cells 0,h) else none
   | none=>none
   else none
 | .ob s g off len, .int _ i=>if 0≤i then match z1u h s g with
   | some (es,true,_,_)=>match es[off + i.toNat]? with
     | some e=>if i.toNat < len∧e.cells.length=esz then some (.ptr s g (off + i.toNat) 0,h) else none
     | none=>none
   | _=>none
   else none
 | _,_=>none
def q4k (h:List AObj):AV→AV→Option (AV×List AObj)
 | .str s, .int _ i=>if 0≤i then (s[i.toNat]?).map fun (b:Nat)=>(.int .u8 (Int.ofNat b),h) else none
 | _,_=>none
theorem v4l {c a b:AOpd}:prim h base g ts (.pick c a b)=k2h h (c.ev ts) (a.ev ts) (b.ev ts):=by
 simp only[prim]
 cases c.ev ts <;> simp only[k2h]
 rename_i t
 cases t <;> rfl
theorem w0d {k:Nat} {z:AV}:prim h base g ts (.alloc k z)=w0b h (base + k) g z:=(rfl)
theorem u1w {k:Nat} {x:AOpd}:prim h base g ts (.box k x)=w0b h (base + k) g (x.ev ts):=(rfl)
theorem w0e {z:List AV} {ps:List (Nat×Nat×AOpd)}:prim h base g ts (.build z ps)=(z6f z (ps.map fun p=>(p.1,p.2.1,p.2.2.ev ts))).map fun cs=>(.agg cs,h):=(rfl)
theorem w7t {sz:Option Nat} {a:AOpd}:prim h base g ts (.load sz a)=z9e h sz (a.ev ts):=by
 simp only[prim];cases a.ev ts <;> rfl
theorem w0f {sz:Nat} {a x:AOpd}:prim h base g ts (.store sz a x)=z5q h sz (x.ev ts) (a.ev ts):=by
 simp only[prim];cases a.ev ts <;> rfl
theorem j8w {x:AOpd}:prim h base g ts (.nilCheck x)=k8h h (x.ev ts):=by
 simp only[prim];cases x.ev ts <;> rfl
theorem w0g {op:BinOp} {t:ETy} {x y:AOpd}:prim h base g ts (.binOp op t x y)=z7i h op t (x.ev ts) (y.ev ts):=(rfl)
theorem w7u {op:UnOp} {x:AOpd}:prim h base g ts (.unOp op x)=unV h op (x.ev ts):=(rfl)
theorem w7v {k:IntKind} {x:AOpd}:prim h base g ts (.cInt k x)=w0c h k (x.ev ts):=by
 simp only[prim];cases x.ev ts <;> rfl
theorem j2c {x:AOpd} {o:Nat}:prim h base g ts (.fieldAddr x o)=k2i h o (x.ev ts):=by
 simp only[prim];cases x.ev ts <;> rfl
theorem x0m {esz:Nat} {x ix:AOpd}:prim h base g ts (.indexAddr none esz x ix)=z1m h esz (x.ev ts) (ix.ev ts):=by
 simp only[prim];cases ix.ev ts <;> cases x.ev ts <;> simp only[z1m] <;> split <;> rfl
theorem k8i {x ix:AOpd}:prim h base g ts (.index none x ix)=q4k h (x.ev ts) (ix.ev ts):=by
 simp only[prim];cases ix.ev ts <;> cases x.ev ts <;> simp only[q4k] <;> split <;> rfl
theorem j8x {f:Nat} {cap:List AOpd}:prim h base g ts (.makeFunc f cap)=some (.fn f (cap.map (·.ev ts)),h):=(rfl)
theorem k2j {x:AOpd} {i:Nat}:prim h base g ts (.extract x i)=u1f h i (x.ev ts):=by
 simp only[prim];cases x.ev ts <;> rfl
theorem u1x {t:LenTy} {x:AOpd}:prim h base g ts (.len t x)=v4k h t (x.ev ts):=(rfl)
theorem k8j {k esz b:Nat} {mu:Bool} {x y:AOpd}:prim h base g ts (.append k esz b mu x y)=z0r h (base + k) g esz b mu (x.ev ts) (y.ev ts):=(rfl)
theorem k2k {k:Nat}:prim h base g ts (.makeMap k)=some (.mp (base + k) g,h.set (base + k) (.map g [])):=(rfl)
def PP (Γ:AProg) (base:Nat) (x:Option (AV×List AObj)) (dst:Option Nat) (g:Nat) (os:List AOper) (ts:Tmps) (clk:Nat) (ks:List Kf) (Q:Post):Prop:=
 match x with
 | some (v,h')=>O Γ base .plain (g + 1) os ⟨z8t ts dst v,h',clk⟩ ks Q
 | none=>False
section
variable {clk:Nat} {ks:List Kf} {Q:Post} {os:List AOper} {dst:Option Nat} {m:Md}
theorem q4l {v:AV} {d:Nat}:PP Γ base (some (v,h)) (some d) g os ts clk ks Q=O Γ base .plain (g + 1) os ⟨upd ts d v,h,clk⟩ ks Q:=(rfl)
theorem w0h {v:AV}:PP Γ base (some (v,h)) none g os ts clk ks Q=O Γ base .plain (g + 1) os ⟨ts,h,clk⟩ ks Q:=(rfl)
theorem q4m {op:AOp} (hop:op.isCall=false):O Γ base .plain g (⟨dst,op,none⟩::os) ⟨ts,h,clk⟩ ks Q=PP Γ base (prim h base g ts op) dst g os ts clk ks Q:=z6j hop
theorem v4m {x:AOpd} {d:Nat}:O Γ base .plain g (⟨some d, .move x,none⟩::os) ⟨ts,h,clk⟩ ks Q=O Γ base .plain (g + 1) os ⟨upd ts d (x.ev ts),h,clk⟩ ks Q:=z6j rfl
theorem w7w {c a b:AOpd}:O Γ base .plain g (⟨dst,(.pick c a b),none⟩::os) ⟨ts,h,clk⟩ ks Q=PP Γ base (k2h h (c.ev ts) (a.ev ts) (b.ev ts)) dst g os ts clk ks Q:=by rw[q4m rfl,v4l]
theorem w0i {k:Nat} {z:AV}:O Γ base .plain g (⟨dst,(.alloc k z),none⟩::os) ⟨ts,h,clk⟩ ks Q=PP Γ base (w0b h (base + k) g z) dst g os ts clk ks Q:=by rw[q4m rfl,w0d]
theorem u1y {k:Nat} {x:AOpd}:O Γ base .plain g (⟨dst,(.box k x),none⟩::os) ⟨ts,h,clk⟩ ks Q=PP Γ base (w0b h (base + k) g (x.ev ts)) dst g os ts clk ks Q:=by rw[q4m rfl,u1w]
theorem w0j {z:List AV} {ps:List (Nat×Nat×AOpd)}:O Γ base .plain g (⟨dst,(.build z ps),none⟩::os) ⟨ts,h,clk⟩ ks Q=PP Γ base ((z6f z (ps.map fun p=>(p.1,p.2.1,p.2.2.ev ts))).map fun cs=>(.agg cs,h)) dst g os ts clk ks Q:=by rw[q4m rfl,w0e]
theorem w7x {sz:Option Nat} {a:AOpd}:O Γ base .plain g (⟨dst,(.load sz a),none⟩::os) ⟨ts,h,clk⟩ ks Q=PP Γ base (z9e h sz (a.ev ts)) dst g os ts clk ks Q:=by rw[q4m rfl,w7t]
theorem w0k {sz:Nat} {a x:AOpd}:O Γ base .plain g (⟨dst,(.store sz a x),none⟩::os) ⟨ts,h,clk⟩ ks Q=PP Γ base (z5q h sz (x.ev ts) (a.ev ts)) dst g os ts clk ks Q:=by rw[q4m rfl,w0f]
theorem j8y {x:AOpd}:O Γ base .plain g (⟨dst,(.nilCheck x),none⟩::os) ⟨ts,h,clk⟩ ks Q=PP Γ base (k8h h (x.ev ts)) dst g os ts clk ks Q:=by rw[q4m rfl,j8w]
theorem k2l {op:BinOp} {t:ETy} {x y:AOpd}:O Γ base .plain g (⟨dst,(.binOp op t x y),none⟩::os) ⟨ts,h,clk⟩ ks Q=PP Γ base (z7i h op t (x.ev ts) (y.ev ts)) dst g os ts clk ks Q:=by rw[q4m rfl,w0g]
theorem w7y {op:UnOp} {x:AOpd}:O Γ base .plain g (⟨dst,(.unOp op x),none⟩::os) ⟨ts,h,clk⟩ ks Q=PP Γ base (unV h op (x.ev ts)) dst g os ts clk ks Q:=by rw[q4m rfl,w7u]
theorem w7z {k:IntKind} {x:AOpd}:O Γ base .plain g (⟨dst,(.cInt k x),none⟩::os) ⟨ts,h,clk⟩ ks Q=PP Γ base (w0c h k (x.ev ts)) dst g os ts clk ks Q:=by rw[q4m rfl,w7v]
theorem j2d {x:AOpd} {o:Nat}:O Γ base .plain g (⟨dst,(.fieldAddr x o),none⟩::os) ⟨ts,h,clk⟩ ks Q=PP Γ base (k2i h o (x.ev ts)) dst g os ts clk ks Q:=by rw[q4m rfl,j2c]
theorem j2e {esz:Nat} {x ix:AOpd}:O Γ base .plain g (⟨dst,(.indexAddr none esz x ix),none⟩::os) ⟨ts,h,clk⟩ ks Q=PP Γ base (z1m h esz (x.ev ts) (ix.ev ts)) dst g os ts clk ks Q:=by rw[q4m rfl,x0m]
theorem k8k {x ix:AOpd}:O Γ base .plain g (⟨dst,(.index none x ix),none⟩::os) ⟨ts,h,clk⟩ ks Q=PP Γ base (q4k h (x.ev ts) (ix.ev ts)) dst g os ts clk ks Q:=by rw[q4m rfl,k8i]
theorem j8z {f:Nat} {cap:List AOpd}:O Γ base .plain g (⟨dst,(.makeFunc f cap),none⟩::os) ⟨ts,h,clk⟩ ks Q=PP Γ base (some (.fn f (cap.map (·.ev ts)),h)) dst g os ts clk ks Q:=by rw[q4m rfl,j8x]
theorem k2m {x:AOpd} {i:Nat}:O Γ base .plain g (⟨dst,(.extract x i),none⟩::os) ⟨ts,h,clk⟩ ks Q=PP Γ base (u1f h i (x.ev ts)) dst g os ts clk ks Q:=by rw[q4m rfl,k2j]
theorem u1z {t:LenTy} {x:AOpd}:O Γ base .plain g (⟨dst,(.len t x),none⟩::os) ⟨ts,h,clk⟩ ks Q=PP Γ base (v4k h t (x.ev ts)) dst g os ts clk ks Q:=by rw[q4m rfl,u1x]
theorem k8l {k esz b:Nat} {mu:Bool} {x y:AOpd}:O Γ base .plain g (⟨dst,(.append k esz b mu x y),none⟩::os) ⟨ts,h,clk⟩ ks Q=PP Γ base (z0r h (base + k) g esz b mu (x.ev ts) (y.ev ts)) dst g os ts clk ks Q:=by rw[q4m rfl,k8j]
theorem k2n {k:Nat}:O Γ base .plain g (⟨dst,(.makeMap k),none⟩::os) ⟨ts,h,clk⟩ ks Q=PP Γ base (some (.mp (base + k) g,h.set (base + k) (.map g []))) dst g os ts clk ks Q:=by rw[q4m rfl,k2k]
end
theorem j9a {t:Bool} {a b:AV}:k2h h (.bool t) a b=some (if t then a else b,h):=(rfl)
theorem j9b {sz:Option Nat} {cs:List AV} {o:Nat}:z9e h sz (.iptr cs o)=(z1x cs o sz).map (·,h):=(rfl)
theorem x9k {sz:Option Nat} {s q i o:Nat}:z9e h sz (.ptr s q i o)=match z1u h s q with
 | some (es,_,_,_)=>(es[i]?).bind fun e=>(z1x e.cells o sz).map (·,h)
 | none=>none:=rfl
theorem k2o {s q i o:Nat}:k8h h (.ptr s q i o)=some (.ptr s q i o,h):=(rfl)
theorem k2p {s q i p o:Nat}:k2i h o (.ptr s q i p)=some (.ptr s q i (p + o),h):=(rfl)
theorem j9c {cs:List AV} {p o:Nat}:k2i h o (.iptr cs p)=some (.iptr cs (p + o),h):=(rfl)
theorem k8m {i:Nat} {cs:List AV}:u1f h i (.tup cs)=(cs[i]?).map (·,h):=(rfl)
theorem k2q {k j:IntKind} {n:Int}:w0c h k (.int j n)=some (.int k (k.wrap n),h):=(rfl)
theorem w0l {xs:List AV} {t:Tip}:v4k h .sl (.sl xs t)=some (.int .i64 xs.length,h):=(rfl)
theorem k8n {s:List Nat}:v4k h .str (.str s)=some (.int .i64 s.length,h):=(rfl)
theorem w0m {s q o l:Nat}:v4k h .sl (.ob s q o l)=some (.int .i64 l,h):=(rfl)
theorem w0n {b:Bool}:unV h .not (.bool b)=some (.bool (!b),h):=(rfl)
theorem w0o {k:IntKind} {n:Int}:unV h .neg (.int k n)=some (.int k (k.wrap (0 - n)),h):=(rfl)
section
variable {t:ETy} {k:IntKind} {a b:Int}
theorem v4n:z7i h .add t (.int k a) (.int k b)=some (.int k (k.wrap (a + b)),h):=by simp[z7i,z4p,z8g]
theorem w8a:z7i h .sub t (.int k a) (.int k b)=some (.int k (k.wrap (a - b)),h):=by simp[z7i,z4p,z8g]
theorem w8b:z7i h .mul t (.int k a) (.int k b)=some (.int k (k.wrap (a * b)),h):=by simp[z7i,z4p,z8g]
theorem q3q (hb:b≠0):z7i h .quo t (.int k a) (.int k b)=some (.int k (k.wrap (a.tdiv b)),h):=by simp[z7i,z4p,z8g,hb]
theorem q1v (hb:b≠0):z7i h .rem t (.int k a) (.int k b)=some (.int k (a.tmod b),h):=by simp[z7i,z4p,z8g,hb]
theorem w8c:z7i h .eql t (.int k a) (.int k b)=some (.bool (decide (a=b)),h):=by simp[z7i,z4p,z8g]
theorem v4o:z7i h .neq t (.int k a) (.int k b)=some (.bool (!decide (a=b)),h):=by simp[z7i,z4p,z8g]
theorem w8d:z7i h .lss t (.int k a) (.int k b)=some (.bool (decide (a < b)),h):=by simp[z7i,z4p,z8g]
theorem w8e:z7i h .leq t (.int k a) (.int k b)=some (.bool (decide (a≤b)),h):=by simp[z7i,z4p,z8g]
theorem w8f:z7i h .gtr t (.int k a) (.int k b)=some (.bool (decide (b < a)),h):=by simp[z7i,z4p,z8g]
theorem w8g:z7i h .geq t (.int k a) (.int k b)=some (.bool (decide (b≤a)),h):=by simp[z7i,z4p,z8g]
end
section
variable {t:ETy} {a b:List Nat}
theorem w8h:z7i h .eql t (.str a) (.str b)=some (.bool (decide (a=b)),h):=by simp[z7i,z4p,q9d]
theorem w8i:z7i h .neq t (.str a) (.str b)=some (.bool (!decide (a=b)),h):=by simp[z7i,z4p,q9d]
theorem w8j:z7i h .lss t (.str a) (.str b)=some (.bool (z6c a b),h):=by simp[z7i,z4p,q9d]
theorem q7z (hl:a.length + b.length < 2 ^ 60):z7i h .add t (.str a) (.str b)=some (.str (a++b),h):=by
 simp only[z7i,z4p,q9d,if_pos hl,k6]
end
theorem w8k {a b:Bool}:z7i h .eql (.one .bool) (.bool a) (.bool b)=some (.bool (a==b),h):=by simp[z7i,z4p,AV.eqv,AV.eq1]
theorem w8l {a b:Bool}:z7i h .neq (.one .bool) (.bool a) (.bool b)=some (.bool (!(a==b)),h):=by simp[z7i,z4p,AV.eqv,AV.eq1]
theorem z4a {xs:List AV} {t:Tip} {esz i:Nat} {k:IntKind} {e:AV} (hx:xs[i]? =some e) (he:e.cells.length=esz):z1m h esz (.sl xs t) (.int k (i:Int))=some (.iptr e.cells 0,h):=by
 simp only[z1m,Int.natCast_nonneg,if_true,i6,hx,he]
theorem x9l {s:List Nat} {i b:Nat} {k:IntKind} (hx:s[i]? =some b):q4k h (.str s) (.int k (i:Int))=some (.int .u8 (b:Int),h):=by
 simp only[q4k,Int.natCast_nonneg,if_true,i6,hx,k6]
 rfl
end
end
theorem z0b {ts:Tmps} {d j:Nat} {v:AV}:upd ts d v j=bif j==d then v else ts j:=by
 unfold upd
 by_cases h:j=d
 ·subst h;simp
 ·have:(j==d)=false:=by simpa using h
  rw[if_neg h,this];rfl
theorem v4p {ts:Tmps} {t:Nat}:(AOpd.tmp t).ev ts=ts t:=(rfl)
theorem j4o {ts:Tmps} {v:AV}:(AOpd.const v).ev ts=v:=(rfl)
theorem z3f {a:AV} {az:List AV}:q0u (a::az) 0=a:=(rfl)
theorem z7m {a:AV} {az:List AV} {n:Nat}:q0u (a::az) (n + 1)=q0u az n:=(rfl)
theorem w0p {h:List AObj} {ts:Tmps}:z1y h ts []=some []:=(rfl)
def w8m (v:AV):Option (List AV)→Option (List AV)
 | some vs=>some (v::vs)
 | none=>none
theorem j9d {v:AV} {vs:List AV}:w8m v (some vs)=some (v::vs):=(rfl)
theorem k2r {h:List AObj} {ts:Tmps} {t:Nat} {rs:List ARes}:z1y h ts (.tmp t::rs)=w8m (ts t) (z1y h ts rs):=by
 simp only[z1y];cases z1y h ts rs <;> rfl
theorem k8o {b:Bool}:(b==true)=b:=by cases b <;> rfl
theorem k2s {b:Bool}:(b==false)= !b:=by cases b <;> rfl
theorem z0e {n:Int} (h1: -9223372036854775808≤n) (h2:n≤9223372036854775807):IntKind.i64.wrap n=n:=IntWalk.i64_in _ ⟨h1,h2⟩
theorem x0n {a d:AV} {l:List AV}:(a::l).getD 0 d=a:=(rfl)
theorem x0o {k:IntKind} {n:Int}:(AV.int k n).cells=[(AV.int k n)]:=(rfl)
theorem k2t {k:IntKind} {n:Int}:(AV.int k n).def? =true:=(rfl)
theorem k2u {k:IntKind} {n:Int}:(AV.int k n).one=true:=(rfl)
theorem x3w {k:IntKind} {n:Int} {cs:List AV}:z7t (AV.int k n) cs=cs.getD 0 .undef:=(rfl)
theorem x3x {b:Bool}:(AV.bool b).cells=[(AV.bool b)]:=(rfl)
theorem j4p {b:Bool}:(AV.bool b).def? =true:=(rfl)
theorem j4q {b:Bool}:(AV.bool b).one=true:=(rfl)
theorem x0p {b:Bool} {cs:List AV}:z7t (AV.bool b) cs=cs.getD 0 .undef:=(rfl)
theorem k2v {s:List Nat}:(AV.str s).cells=[(AV.str s)]:=(rfl)
theorem w0q {s:List Nat}:(AV.str s).def? =true:=(rfl)
theorem x5n {s:List Nat}:(AV.str s).one=true:=(rfl)
theorem z3g {xs:List AV} {t:Tip}:(AV.sl xs t).cells=[(AV.sl xs t)]:=(rfl)
theorem w8n {xs:List AV} {t:Tip}:(AV.sl xs t).def? =true:=(rfl)
theorem j4r {xs:List AV} {t:Tip}:(AV.sl xs t).one=true:=(rfl)
theorem k2w {xs:List AV} {t:Tip} {cs:List AV}:z7t (AV.sl xs t) cs=cs.getD 0 .undef:=(rfl)
theorem k8p {a b c d:Nat}:(AV.ob a b c d).cells=[(AV.ob a b c d)]:=(rfl)
theorem w8o {a b c d:Nat}:(AV.ob a b c d).def? =true:=(rfl)
theorem v4q {a b c d:Nat}:(AV.ob a b c d).one=true:=(rfl)
theorem k2x {a b c d:Nat}:(AV.ptr a b c d).cells=[(AV.ptr a b c d)]:=(rfl)
theorem w0r {a b c d:Nat}:(AV.ptr a b c d).def? =true:=(rfl)
theorem w0s {a b c d:Nat}:(AV.ptr a b c d).one=true:=(rfl)
theorem x9m:(AV.nilptr).cells=[(AV.nilptr)]:=(rfl)
theorem j9e:(AV.nilptr).def? =true:=(rfl)
theorem x5o {cs:List AV}:z7t (AV.nilptr) cs=cs.getD 0 .undef:=(rfl)
theorem k8q {a b:Nat}:(AV.mp a b).cells=[(AV.mp a b)]:=(rfl)
theorem w8p {a b:Nat}:(AV.mp a b).def? =true:=(rfl)
theorem w8q {a b:Nat}:(AV.mp a b).one=true:=(rfl)
theorem x9n:(AV.nilmap).cells=[(AV.nilmap)]:=(rfl)
theorem j9f:(AV.nilmap).def? =true:=(rfl)
theorem x5p {cs:List AV}:z7t (AV.nilmap) cs=cs.getD 0 .undef:=(rfl)
theorem k2y {cs:List AV}:(AV.agg cs).cells=cs:=(rfl)
theorem w0t {cs:List AV}:(AV.agg cs).def? =true:=(rfl)
theorem j9g {xs cs:List AV}:z7t (.agg xs) cs= .agg cs:=(rfl)
attribute [go_sem] x0o k2t k2u x3w x3x j4p j4q x0p k2v w0q x5n z3g w8n j4r k2w k8p w8o v4q k2x w0r w0s x9m j9e x5o k8q w8p w8q x9n j9f x5p k2y w0t j9g
theorem x9o {f:List Nat×List Nat}:Md.plain.add f= .plain:=(rfl)
theorem k8r {N:Nat} {ops:List AOper} {ps:List (Nat×Nat)} {fs:List (List Nat×List Nat)} {f:List Nat×List Nat}:(Md.draw N ops ps fs).add f= .draw N ops ps (fs++[f]):=(rfl)
attribute [go_sem] x9o k8r v9u v9v q6s x9g j8u x9h k2e j2a x3s x3t x9i v9w k8c w7p k8d x0j v9z v9x w7q v9y k8e w7r w0a u1v q4l w0h v4m w7w w0i u1y w0j w7x w0k j8y k2l w7y w7z j2d j2e k8k j8z k2m u1z k8l k2n z0b cond_true cond_false v4p j4o z3f z7m w0p j9d k2r k8o k2s k8g k2g List.map_cons List.map_nil k6 Option.map_none Option.bind_some Option.bind_none if_true if_false j9a j9b x9k k2o k2p j9c k8m k2q w0l k8n w0m w0n w0o v4n w8a w8b w8c v4o w8d w8e w8f w8g w8h w8i w8j w8k w8l z8t
attribute [go_sem_proc] z0 z1 z2 z3 reduceCtorEq
attribute [go_sem_proc ↓] reduceIte
end
end Go.Proofs.YtkollgjffkdliaaGreatDoor.Am
