/- Regions whose order is open: joined Functions that are told by tables The functions of this program that loops go over: slices Walking code of the abstract machine: what is left to do is data, so that -/
import Derived.RangeFuncCalls
import Derived.Maps.RangeWalk
import Derived.IntWalk
import Derived.LoopIn
import Derived.Attr
import Derived.Test.YtkollgjffkdliaaGreatDoorProg
import Derived.Test.YtkollgjffkdliaaGreatDoorK06
open Bool renaming and_eq_true → y4,false_eq_true → j9,not_eq_true' → d9
open Int renaming toNat_natCast → m7
open List renaming all_eq_true → y9,append_eq_nil_iff → n7,append_nil → w9,getElem?_cons_succ → l9,length_cons → v5,mem_append → x4,mem_cons → j6,mem_cons_self → j7,nil_append → y8,replicate → x3
open Nat renaming add_assoc → d3,add_zero → b4,le_refl → x7,zero_add → k6
open Option renaming getD_some → d4,map_eq_some_iff → x5,map_some → j5
open Nat renaming reduceBEq → z0,reduceAdd → z1,reduceLeDiff → z2,reduceSub → z3
set_option linter.all false
namespace Go.Proofs.YtkollgjffkdliaaGreatDoor.Am
open Go
set_option maxRecDepth 100000
section
variable {P:Program} {G:Ghost} {I:Imm} {h:List AObj} {w:World}
theorem q9e {ops:Array Oper} {listed:Array Bool} (hsz:listed.size=ops.size) {i:Nat}:i∈Region.ready .any ops listed↔i < ops.size∧listed.getD i false=false∧∃ o,ops[i]? =some o∧∀ e∈o.after.toList,Region.binds .any e=true→listed.getD e.on false=true:=by
 unfold Region.ready
 rw[List.mem_filter,List.mem_range]
 constructor
 ·rintro ⟨hi,h⟩
  simp only[y4,d9] at h
  obtain⟨h1,h2⟩:=h
  refine⟨hi, ?_,ops[i],Array.getElem?_eq_getElem hi,fun e he hb=> ?_⟩
  ·rw[Array.getD_eq_getD_getElem?,Array.getElem?_eq_getElem (by omega)] at h1⊢
   exact h1
  ·rw[Array.getElem?_eq_getElem hi] at h2
   simp only[j5,d4] at h2
   have h3:=Array.all_eq_true'.1 h2 e (by simpa using he)
   rw[hb] at h3
   simpa using h3
 ·rintro ⟨hi,h1,o,ho,h2⟩
  refine⟨hi, ?_⟩
  simp only[y4,d9]
  constructor
  ·rw[Array.getD_eq_getD_getElem?,Array.getElem?_eq_getElem (by omega)] at h1⊢
   exact h1
  ·rw[ho]
   simp only[j5,d4]
   refine Array.all_eq_true'.2 fun e he=> ?_
   cases hb:Region.binds .any e with
   | false=>rfl
   | true=>simpa using h2 e (by simpa using he) hb
theorem j3a {listed:Array Bool} {i j:Nat} (hi:i < listed.size):(listed.setIfInBounds i true).getD j false=if j=i then true else listed.getD j false:=by
 rw[Array.getD_eq_getD_getElem?,Array.getD_eq_getD_getElem?,Array.getElem?_setIfInBounds]
 by_cases h:i=j
 ·subst h
  simp[hi]
 ·simp[h,Ne.symm h]
theorem Ran.drew {base clk:Nat} {G':Ghost} {I':Imm} {h':List AObj} {w w':World} {d:Nat} (r:Ran base clk G I h {w with drawn:=d} G' I' h' w'):Ran base clk G I h w G' I' h' w':=
 ⟨r.rel,r.gle,r.ile,r.slots,r.own,⟨r.fr.os,r.fr.tape,r.fr.output,r.fr.size,r.fr.kept⟩,r.ifr⟩
theorem Rel.drew {w:World} {d:Nat} (r:Rel G I h w):Rel G I h {w with drawn:=d}:=r.world fun _ _ hx=>hx
theorem w2p {R:Nat→ACode→St→Option (AEx×St)} {Γ:AProg} {back:Nat→Option Nat} {nt B base clk0 N:Nat} {mu:Nat→Bool} {al:Nat→Nat} {ops:Array Oper} {asx:List AOper} {fs:Nat→List Nat×List Nat}
  (hC:q4m P (z0k R Γ)) (hB:q1b P back) (m:MadeAll P back nt mu al ops asx) (hedge:q5t 0 ops.toList=true)
  (hpair:∀ i j,i < j→j < ops.size→((Region.before ops).toList.getD j 0).testBit i=false→PairOk asx fs N i j):
  ∀ (fuel:Nat) (l:List Nat) (listed:Array Bool) (s s':St) (G:Ghost) (I:Imm) (w:World) (a:Act),l.length≤fuel→listed.size=ops.size→l.Pairwise (· < ·)→(∀ i,i∈l↔i < ops.size∧listed.getD i false=false)→
    (∀ j,listed.getD j false=true→∀ i,((Region.before ops).toList.getD j 0).testBit i=true→listed.getD i false=true)→
    Runs (z0k R Γ) Γ base clk0 asx fs l s s'→N≤s.h.length→Live nt B G I s a w→w2c (fun g=>∃ k∈l,g=clk0 + k) G s.clk→clk0 + ops.size≤s.clk→base≤s.h.length→
    ∀ (r:Option Nat) (q:Nat) (Q:Exit→Act→World→Prop),Came base nt B clk0 G I s w s' (Q .normal)→wpAnyIn (q6y r) q P .any ops Q fuel listed a w:=by
 intro fuel
 induction fuel with
 | zero=>
   intro l listed s s' G I w a hlen hsz hord hmem hdown hruns hN hl hK hclk hb r q Q hQ
   have:l=[]:=List.length_eq_zero_iff.1 (by omega)
   subst this
   cases hruns
   refine⟨List.eq_nil_iff_forall_not_mem.2 fun i hi=> ?_,hQ a w G I hl (Ran.refl hl.rel) (fun g hg=>hK g (.inr hg)) (x7 _) (x7 _)⟩
   have:=(q9e hsz).1 hi
   have:=(hmem i).2 ⟨this.1,this.2.1⟩
   simp at this
 | succ fuel ih=>
   intro l listed s s' G I w a hlen hsz hord hmem hdown hruns hN hl hK hclk hb r q Q hQ
   refine⟨fun hr0=> ?_,fun i hi=> ?_⟩
   ·have hnil:l=[]:=by
     cases l with
     | nil=>rfl
     | cons k l=>
       exfalso
       have hk:=(hmem k).1 j7
       have:k∈Region.ready .any ops listed:=by
        refine (q9e hsz).2 ⟨hk.1,hk.2,ops[k],Array.getElem?_eq_getElem hk.1,fun e he hbd=> ?_⟩
        have hlt:=q7a hedge k ops[k] (by simp) e he hbd
        cases hx:listed.getD e.on false with
        | true=>rfl
        | false=>
          exfalso
          have hin:=(hmem e.on).2 ⟨by omega,hx⟩
          rcases j6.1 hin with heq | hin
          ·omega
          ·have:=List.rel_of_pairwise_cons hord hin
           omega
       rw[hr0] at this
       simp at this
    subst hnil
    cases hruns
    exact hQ a w G I hl (Ran.refl hl.rel) (fun g hg=>hK g (.inr hg)) (x7 _) (x7 _)
   ·obtain⟨hi1,hi2,o,ho,hedges⟩:=(q9e hsz).1 hi
    have hil:=(hmem i).2 ⟨hi1,hi2⟩
    obtain⟨l1,l2,rfl⟩:=List.append_of_mem hil
    have hbits:∀ k,((Region.before ops).toList.getD i 0).testBit k=true→listed.getD k false=true:=fun k hk=>by
     obtain⟨o',ho',e,he,hbd,h3⟩:=j0g hk
     rw[ho] at ho'
     simp only[Option.some.injEq] at ho'
     subst ho'
     have hon:=hedges e he hbd
     rcases h3 with rfl | h3
     ·exact hon
     ·exact hdown e.on hon k h3
    have hlow:∀ k∈l1,k < i:=fun k hk=>(List.pairwise_append.1 hord).2.2 k hk i j7
    have hb1:=hruns.bubble (fun k hk=>hpair k i (hlow k hk) hi1 (by
     cases hx:((Region.before ops).toList.getD i 0).testBit k with
     | false=>rfl
     | true=>
       have h1:=hbits k hx
       have h2:=((hmem k).1 (List.mem_append_left _ hk)).2
       rw[h1] at h2
       simp at h2)) hN
    cases hb1 with
    | cons hao hst hft hrest=>
      rename_i ao s1
      obtain⟨ao',n,hao',hm⟩:=m.made i o ho
      rw[hao] at hao'
      simp only[Option.some.injEq] at hao'
      subst hao'
      have hnd:l1++i::l2=l1++i::l2:=rfl
      have hne:∀ k∈l1++l2,k≠i:=fun k hk he=>by
       subst he
       rcases x4.1 hk with hk | hk
       ·exact Nat.lt_irrefl _ (hlow k hk)
       ·have:=(List.pairwise_append.1 hord).2.1
        exact Nat.lt_irrefl _ (List.rel_of_pairwise_cons this hk)
      have hmem':∀ k,k∈l1++l2↔k∈l1++i::l2∧k≠i:=fun k=>by
       constructor
       ·intro hk
        refine⟨?_,hne k hk⟩
        simp only[x4,j6] at hk⊢
        rcases hk with hk | hk
        ·exact .inl hk
        ·exact .inr (.inr hk)
       ·rintro ⟨hk,hki⟩
        simp only[x4,j6] at hk⊢
        rcases hk with hk | hk | hk
        ·exact .inl hk
        ·exact absurd hk hki
        ·exact .inr hk
      have hstep:=j9e (r:=r) (k:=q) (Q:=Q) (K:=wpAnyIn (q6y r) q P .any ops Q fuel (listed.setIfInBounds i true)) (lo:=clk0) (gen:=clk0 + i) (U:=fun g=>∃ k∈l1++i::l2,g=clk0 + k) hC hB hm hl
       (fun j t hj=>Nat.lt_of_lt_of_le (m.dst j t hj) hl.size) hst ⟨i,hil,rfl⟩ (fun g hg=>by
        obtain⟨k,hk,rfl⟩:=hg
        have:=((hmem k).1 hk).1
        omega) hK (by omega) (by omega) hb (fun a1 w1 G1 I1 hl1 hran hK1 hc1 hlen1 hsz1=>by
        refine ih (l1++l2) (listed.setIfInBounds i true) s1 s' G1 I1 w1 a1 ?_ (by rw[Array.size_setIfInBounds];exact hsz) ?_ (fun k=> ?_) (fun j hj k hk=> ?_) hrest (by omega) hl1 (fun g hg=>hK1 g ?_) (by omega) (by omega) r q Q fun a2 w2 G2 I2 hl2 hran2 hf2 hc2 hlen2=> ?_
        ·simp only[List.length_append,v5] at hlen⊢
         omega
        ·refine List.Pairwise.sublist ?_ hord
         exact List.Sublist.append_left (List.sublist_cons_self _ _) _
        ·rw[hmem' k,hmem k,j3a (by omega)]
         by_cases hki:k=i
         ·simp[hki]
         ·simp[hki]
        ·rw[j3a (by omega)] at hj⊢
         split
         ·rfl
         ·split at hj
          ·rename_i hji
           subst hji
           exact hbits k hk
          ·exact hdown j hj k hk
        ·rcases hg with ⟨k,hk,rfl⟩ | hg
         ·refine .inl ⟨⟨k,((hmem' k).1 hk).1,rfl⟩, ?_⟩
          have:=hne k hk
          omega
         ·exact .inr hg
        ·exact hQ a2 w2 G2 I2 hl2 (hran.trans hran2 (x7 _) (x7 _)) hf2 (by omega) (by omega))
      unfold wpOpIn
      rw[ho]
      simp only
      split
      ·rename_i hw
       rw[if_pos hw] at hstep
       exact hstep
      ·rename_i hw
       rw[if_neg hw] at hstep
       exact hstep
theorem j0h {back:Nat→Option Nat} (hm:P.follows .mixedOrders=true):x7l P back:=by
 intro Γ k nt B base mu al id ops asx hC hB m hind hcalls hedge s s' G I w a hr hl hf hb r q Q hQ
 refine wpIn_region_any hm ?_
 have hlen:=m.len
 have start:∃ fs:Nat→List Nat×List Nat,Runs (z0k (z3q Γ k) Γ) Γ base s.clk asx fs (List.range' 0 asx.length) {s with clk:=s.clk + asx.length} s'∧
   ∀ i j,i < j→j < ops.size→((Region.before ops).toList.getD j 0).testBit i=false→(i,j)∈q1g (Region.before ops).toList asx 0 asx→Apart (fs i) (fs j)∧(z1n asx i=true∨z1n asx j=true→(∀ x∈(fs i).1++(fs i).2,x < s.h.length)∧(∀ x∈(fs j).1++(fs j).2,x < s.h.length)):=by
  unfold region at hr
  split at hr
  ·rename_i hps
   obtain⟨l,hl'⟩:=q3c (Γ:=Γ) hr
   refine⟨fun i=>l.getD i ([],[]),(q1k (j:=0) rfl (by simpa using hl') fun i f hi=>by simp[List.getD,hi]).1,fun i j _ _ _ hmem=> ?_⟩
   rw[hps] at hmem
   simp at hmem
  ·split at hr
   ·rename_i s1 l hl'
    split at hr
    ·rename_i hchk
     simp only[Option.some.injEq] at hr
     subst hr
     obtain⟨hR,hL⟩:=q1k (fs:=fun i=>l.getD i ([],[])) (j:=0) rfl (by simpa using hl') fun i f hi=>by simp[List.getD,hi]
     refine⟨fun i=>l.getD i ([],[]),hR,fun i j hij hj _ hmem=> ?_⟩
     have hc:=y9.1 hchk (i,j) hmem
     simp only[y4,Bool.or_eq_true,d9,Bool.or_eq_false_iff] at hc
     refine⟨j6o hc.1,fun hcall=> ?_⟩
     rcases hc.2 with h1 | h1
     ·rcases hcall with h2 | h2
      ·rw[h1.1] at h2;simp at h2
      ·rw[h1.2] at h2;simp at h2
     ·refine⟨fun x hx=> ?_,fun x hx=> ?_⟩
      ·simpa using y9.1 h1 x (List.mem_append_left _ hx)
      ·simpa using y9.1 h1 x (List.mem_append_right _ hx)
    ·simp at hr
   ·simp at hr
 obtain⟨fs,hruns,hap⟩:=start
 have hat:∀ i,i < ops.size→∃ o,asx[i]? =some o:=fun i hi=>⟨asx[i],List.getElem?_eq_getElem (by omega)⟩
 have hfoot:∀ i o,i < ops.size→asx[i]? =some o→∃ s1 s2,fs i=footOfK Γ base o s1 s2:=fun i o hi ho=>by
  obtain⟨o',s1,s2,ho',h⟩:=hruns.foot i (by simp only[List.mem_range'_1];omega)
  rw[ho] at ho'
  simp only[Option.some.injEq] at ho'
  subst ho'
  exact⟨s1,s2,h⟩
 have hpair:∀ i j,i < j→j < ops.size→((Region.before ops).toList.getD j 0).testBit i=false→PairOk asx fs s.h.length i j:=by
  intro i j hij hj hbit
  obtain⟨x,hx⟩:=hat i (by omega)
  obtain⟨y,hy⟩:=hat j hj
  obtain⟨x1,x2,hfx⟩:=hfoot i x (by omega) hx
  obtain⟨y1,y2,hfy⟩:=hfoot j y hj hy
  have hI:indep x y=true:=by
   have:=q7c hind (q:=j) (o:=y) hy
   rw[k6] at this
   exact q7b this (p:=i) hx (by omega) (by rw[k6];exact hbit)
  have mk:(x.op.isCall=false∨y.op.isCall=false)→Apart (fs i) (fs j)→(y.op.isCall=true→∀ z∈(fs i).1++(fs i).2,z < s.h.length)→(x.op.isCall=true→∀ z∈(fs j).1++(fs j).2,z < s.h.length)→PairOk asx fs s.h.length i j:=fun h1 h2 h3 h4=>by
   refine⟨fun a b ha hb=> ?_,fun a b ha hb=> ?_,h2,fun b hb=> ?_,fun a ha=> ?_⟩
   ·rw[hx] at ha;rw[hy] at hb
    simp only[Option.some.injEq] at ha hb
    subst ha hb
    exact hI
   ·rw[hx] at ha;rw[hy] at hb
    simp only[Option.some.injEq] at ha hb
    subst ha hb
    exact h1
   ·rw[hy] at hb
    simp only[Option.some.injEq] at hb
    subst hb
    exact h3
   ·rw[hx] at ha
    simp only[Option.some.injEq] at ha
    subst ha
    exact h4
  by_cases c1:z3l x.op=0
  ·have he:fs i=([],[]):=by rw[hfx];exact q4s c1
   refine mk (.inl ?_) (by rw[he];exact⟨fun s hs=>by simp at hs,fun s hs=>by simp at hs,fun s _=>by simp⟩) (fun _ z hz=>by rw[he] at hz;simp at hz) (fun hc=>by rw[z5a hc] at c1;simp at c1)
   cases hc:x.op.isCall with
   | false=>rfl
   | true=>rw[z5a hc] at c1;simp at c1
  by_cases c2:z3l y.op=0
  ·have he:fs j=([],[]):=by rw[hfy];exact q4s c2
   refine mk (.inr ?_) (by rw[he];exact⟨fun s _=>by simp,fun s _=>by simp,fun s hs=>by simp at hs⟩) (fun hc=>by rw[z5a hc] at c2;simp at c2) (fun _ z hz=>by rw[he] at hz;simp at hz)
   cases hc:y.op.isCall with
   | false=>rfl
   | true=>rw[z5a hc] at c2;simp at c2
  by_cases c3:z3l x.op=2∨z3l y.op=2
  ·have hmem:(i,j)∈q1g (Region.before ops).toList asx 0 asx:=by
    refine q9d (q:=j) (o:=y) hy ?_
    rw[k6]
    have:=q9c (bj:=(Region.before ops).toList.getD j 0) (j:=j) (cj:=z3l y.op) (os:=asx) (i0:=0) (p:=i) (o:=x) hx (by omega) (by rw[k6];exact hbit) c1 c2 c3
    rwa [k6] at this
   obtain⟨h1,h2⟩:=hap i j hij hj hbit hmem
   have hci:x.op.isCall=true→z1n asx i=true:=fun hc=>by simp[z1n,hx,hc]
   have hcj:y.op.isCall=true→z1n asx j=true:=fun hc=>by simp[z1n,hy,hc]
   refine mk ?_ h1 (fun hc=>(h2 (.inr (hcj hc))).1) (fun hc=>(h2 (.inl (hci hc))).2)
   have:=y9.1 hcalls (i,j) hmem
   simp only[hx,hy,j5,d4,d9,Bool.and_eq_false_iff] at this
   exact this
  ·have e1:z3l x.op=1:=by rcases x2m x.op with h | h | h <;> omega
   have e2:z3l y.op=1:=by rcases x2m y.op with h | h | h <;> omega
   have g1:(fs i).2=[]:=by rw[hfx];exact q4t e1
   have g2:(fs j).2=[]:=by rw[hfy];exact q4t e2
   refine mk (.inl ?_) ⟨fun s hs=>by rw[g1] at hs;simp at hs,fun s hs=>by rw[g1] at hs;simp at hs,fun s hs=>by rw[g2] at hs;simp at hs⟩ (fun hc=>by rw[z5a hc] at e2;simp at e2) (fun hc=>by rw[z5a hc] at e1;simp at e1)
   cases hc:x.op.isCall with
   | false=>rfl
   | true=>rw[z5a hc] at e1;simp at e1
 have hl':Live nt B G I {s with clk:=s.clk + asx.length} a {w with drawn:=w.drawn + 1}:=⟨hl.bnd,hl.dfr,hl.size,hl.tmps,hl.rel.drew⟩
 refine w2p (N:=s.h.length) (clk0:=s.clk) hC hB m hedge hpair ops.size (List.range' 0 asx.length) (Array.replicate ops.size false) _ s' G I _ a (by simp[hlen]) (by simp) ?_ (fun i=> ?_) (fun j hj=> ?_) hruns (x7 _) hl' (fun g hg=>hf g ?_) (by
   show s.clk + ops.size≤s.clk + asx.length
   omega) hb r q Q fun a' w' G' I' h1 h2 h3 h4 h5=>hQ a' w' G' I' h1 h2.drew h3 (by
   have:s.clk + asx.length≤s'.clk:=h4
   omega) h5
 ·exact List.pairwise_lt_range'
 ·rw[List.mem_range'_1,hlen]
  have:(Array.replicate ops.size false).getD i false=false:=by
   rw[Array.getD_eq_getD_getElem?,Array.getElem?_replicate]
   split <;> rfl
  simp[this]
 ·have:(Array.replicate ops.size false).getD j false=false:=by
   rw[Array.getD_eq_getD_getElem?,Array.getElem?_replicate]
   split <;> rfl
  rw[this] at hj
  simp at hj
 ·rcases hg with ⟨k,_,rfl⟩ | hg
  ·omega
  ·have:s.clk + asx.length≤g:=hg
   omega
end
theorem q2p {G G':Ghost}:j0b G G' 0:=by
 intro g i h1 h2
 exact absurd h2 (Nat.not_lt_zero _)
def told (P:Program) (f:Nat) (sem:List AV→Option AV):Prop:=∀ az v,sem az=some v→∀ G I w (cargs:Array Value),VRL G I az cargs.toList→(∀ b o v,I b o=some v→w.cell? ⟨b,o,none⟩=some v)→(∃ clk,Fresh G clk)→CallRes P (real f) cargs w (ExtPost G I w v)
def chk (Γ:AProg) (k f:Nat) (p:List AV×AV):Bool:=(z0i p.1).isEmpty && p.2.ids.isEmpty && match z5w Γ k f p.1 [] 0 with
 | some (w,_,_)=>w.beq p.2
 | none=>false
theorem k5k {P:Program} {Γ:AProg} {back:Nat→Option Nat} (hΓ:ProgOk P back Γ) (hB:q1b P back) (hD:x7l P back) (hR:q0m P Γ) {f:Nat} {tab:List (List AV×AV)} (h:∀ p∈tab,∃ k,chk Γ k f p=true):told P f (q5u tab):=by
 intro az v hv G I w cargs hargs himm _
 unfold q5u at hv
 rw[x5] at hv
 obtain⟨p,hp,rfl⟩:=hv
 have hbeq:=List.find?_some hp
 have haz:p.1=az:=z6e hbeq
 obtain⟨k,hk⟩:=h p (List.mem_of_find?_eq_some hp)
 simp only[chk,y4,List.isEmpty_iff] at hk
 obtain⟨⟨h1,h2⟩,h3⟩:=hk
 split at h3
 ·rename_i v' h' clk hc
  have hvv:=beq_sound h3
  subst hvv
  subst haz
  have hargs0:VRL (fun _=>none) I p.1 cargs.toList:=VRL.keep (n:=0) q2p (by rw[h1];simp) hargs
  intro o a next Q hn
  refine (q5w hΓ hB hD hR k f p.1 [] 0 p.2 h' clk hc (fun _=>none) I w cargs hargs0 ⟨himm,fun i o ho=>by simp at ho,fun i j oi oj b hi=>by simp at hi⟩ (fun _ _=>rfl)) o a next Q fun cv w' he=>hn cv w' ?_
  obtain⟨G',I',hv',hran,_⟩:=he
  refine⟨I',hran.ile,VR.keep (n:=0) q2p (by rw[h2];simp) hv',fun b y hy=> ?_,hran.fr.os,hran.fr.tape,hran.fr.output,hran.fr.size,fun b o v hv=> ?_⟩
  ·have hb:b < w.heap.size:=(Array.getElem?_eq_some_iff.1 hy).1
   rw[hran.fr.kept b hb fun i o hi=>by simp at hi]
   exact hy
  ·rcases Nat.lt_or_ge b w.heap.size with hb | hb
   ·exact .inl (hran.ifr b hb (fun i o hi=>by simp at hi) o v hv)
   ·exact .inr ⟨hb,hran.rel.imm b o v hv⟩
 ·cases h3
end Go.Proofs.YtkollgjffkdliaaGreatDoor.Am
namespace Go.Proofs.YtkollgjffkdliaaGreatDoor
open Go Go.RowKit
namespace Am
set_option maxRecDepth 100000 in
set_option maxHeartbeats 1000000 in
theorem x7t (F:Fence) (m:Nat) (hF:F.fn 294) (hro:F.round=none) (hm:1≤m) (l b n c:Nat) (A:Option Addr) (J:Nat→World→Prop) (W:World) (hn:n < 2 ^ 48)
  (hcap:∀ i W,J i W→W.cell? ⟨b,0,none⟩=some (.slice A n c))
  (hround:∀ i W,i < n→J (i + 1) W→∃ bA oA vx,A=some ⟨bA,oA,none⟩∧n≤c∧W.cell? ⟨bA,oA + i,none⟩=some vx∧YieldAt F (m - 1) Tryz.prog l #[.int .i64 i,vx] W fun e W'=>e= .returned (.bool true)∧J i W')
  (h0:J n W):CallsIn F m Tryz.prog 294 #[.func (.yield l) #[] #[], .pointer (some ⟨b,0,none⟩)] W fun e W'=>(∃ v,e= .returned v)∧J 0 W':=by
 have hc:=hcap _ _ h0
 refine callsIn_of_wp Tryz.func294 rfl hF ?_ hro
 simp only[Tryz.ntmps294,List.size_toArray,v5,List.length_nil,z1,z3,Array.replicate_succ,Array.replicate_zero,List.push_toArray,List.append_toArray,y8,List.cons_append]
 have hw1:IntKind.i64.wrap ((n:Int) - 1)=(n:Int) - 1:=IntWalk.i64_in _ (by omega)
 gi_wp2
 gi_loopw [3] (fun v wr=>∃ k:Nat,k≤n∧v= .int .i64 ((k:Int) - 1)∧J k wr) (fun v _=>(intOf v + 1).toNat)
 case atStart=>exact⟨n,x7 _,rfl,h0⟩
 case round=>
  obtain⟨k,hk,rfl,hJ⟩:=hrel
  cases k with
  | zero=>
    gi_wp2
    go_end0
    exact⟨⟨_,rfl⟩,hJ⟩
  | succ i=>
    have he:(((i + 1:Nat):Int) - 1)=(i:Int):=by omega
    rw[he]
    have hw2:IntKind.i64.wrap ((i:Int) - 1)=(i:Int) - 1:=IntWalk.i64_in _ (by omega)
    obtain⟨bA,oA,vx,rfl,hnc,hcell,fn,tmps,assign,body,hy,hR⟩:=hround i _ (by omega) hJ
    have hc2:=hcap _ _ hJ
    have hlt:(i:Int) < (n:Int):=by omega
    clear he hround
    gi_wp2
    refine hR.mono ?_
    rintro e W3 ⟨rfl,hJ3⟩
    gi_wp2
    go_roundw
    case rel=>exact⟨i,by omega,rfl,hJ3⟩
    case measure=>simp[intOf]
theorem j9q:j9g Tryz.prog 294:=fun q l b n c A J W hn hcap _ hround h0=>
 x7t (q6y none) (q + 1) trivial rfl (Nat.le_add_left 1 q) l b n c A J W hn hcap hround h0
theorem j9r {G:Ghost} {I:Imm} {w:World} {x:AV} {cx:Value} (hr:(z6v x).isSome=true) (hx:VR G I x cx) (himm:∀ b o v,I b o=some v→w.cell? ⟨b,o,none⟩=some v):CallRes Tryz.prog 252 #[cx] w fun cv w'=>∃ I',ILe I I'∧VR G I' (.bwd 294 x) cv∧(∀ (b:Nat) (y:Obj),w.heap[b]? =some y→w'.heap[b]? =some y)∧w'.os=w.os∧w'.tape=w.tape∧w'.output=w.output∧w.heap.size≤w'.heap.size∧
   ∀ b o v,I' b o=some v→I b o=some v∨(w.heap.size≤b∧w'.cell? ⟨b,o,none⟩=some v):=by
 have hlo:∀ b o v,I b o=some v→b < w.heap.size:=fun b o v hv=>by
  have hc:=himm b o v hv
  unfold World.cell? at hc
  simp only at hc
  apply Nat.lt_of_not_le
  intro hle
  rw[Array.getElem?_eq_none hle] at hc
  simp at hc
 obtain⟨A,n,c,rfl⟩:∃ A n c,cx= .slice A n c:=by
  cases x <;> simp[z6v] at hr
  case sl xs t=>
   simp only[VR] at hx
   obtain⟨A,n',c,rfl,_⟩:=hx
   exact⟨A,n',c,rfl⟩
  case ob s g off l=>
   simp only[VR] at hx
   obtain⟨i,A,c,_,_,rfl,_⟩:=hx
   exact⟨A,_,c,rfl⟩
 intro o a next Q hn
 rw[z5r Tryz.func252 rfl (by decide),Oper.upon_enter]
 have hc:Calls Tryz.prog 252 #[.slice A n c] w fun e w'=>e= .returned (.func (.func 294) #[] #[.pointer (some ⟨w.heap.size,0,none⟩)])∧w'=w.alloc (.cells #[.slice A n c] 22):=by
  go_enter Tryz.func252,Tryz.ntmps252
  go_wp2
  go_ret
  exact⟨rfl,rfl⟩
 refine hc.mono ?_
 rintro e w' ⟨rfl,rfl⟩
 refine hn _ _ ⟨fun b o=>if b=w.heap.size∧o=0 then some (.slice A n c) else I b o,fun b o v hv=> ?_, ?_,fun b y hy=> ?_,rfl,rfl,rfl,by simp,fun b o v hv=> ?_⟩
 ·have:=hlo b o v hv
  show (if b=w.heap.size∧o=0 then some (Value.slice A n c) else I b o)=some v
  rw[if_neg (by omega)]
  exact hv
 ·simp only[VR]
  refine⟨w.heap.size, .slice A n c,rfl,by simp,VR.mono (GLe.refl _) (fun b o v hv=> ?_) hx⟩
  have:=hlo b o v hv
  show (if b=w.heap.size∧o=0 then some (Value.slice A n c) else I b o)=some v
  rw[if_neg (by omega)]
  exact hv
 ·rw[RowKit.Below.heap_alloc _ _ _ (Array.getElem?_eq_some_iff.1 hy).1]
  exact hy
 ·replace hv:(if b=w.heap.size∧o=0 then some (Value.slice A n c) else I b o)=some v:=hv
  split at hv
  ·rename_i hbo
   obtain⟨rfl,rfl⟩:=hbo
   simp only[Option.some.injEq] at hv
   subst hv
   refine .inr ⟨x7 _, ?_⟩
   unfold World.cell?
   simp only[World.alloc_heap_new]
   rfl
  ·exact .inl hv
end Am
end Go.Proofs.YtkollgjffkdliaaGreatDoor
namespace Go.Proofs.YtkollgjffkdliaaGreatDoor.Am
open Go
set_option maxRecDepth 100000
section
abbrev Run:=Nat→ACode→St→Option (AEx×St)
def v5f (R R':Run):Prop:=∀ b c s r,R b c s=some r→R' b c s=some r
def x2n (C C':Caller):Prop:=∀ f asx h c r,C f asx h c=some r→C' f asx h c=some r
theorem q0p {R R':Run} (hR:v5f R R') {Γ:AProg}:x2n (z0k R Γ) (z0k R' Γ):=by
 intro f args h clk x hc
 unfold z0k at hc⊢
 split at hc
 ·exact hc
 ·split at hc
  ·cases hc
  ·rename_i af haf
   split at hc
   ·cases hc
   ·rename_i asx has
    dsimp only at hc⊢
    generalize hE:R h.length af.body ⟨q0f asx,maskFrom (reach h (h.length + 1) [] (z0i asx)) 0 (freezeAll h (z0p af.byref 0 args))++x3 af.nslots .dead,clk⟩=E at hc
    cases E with
    | none=>cases hc
    | some r=>
      rw[hR _ _ _ _ hE]
      exact hc
theorem x2o {C C':Caller} (hC:x2n C C') {base g:Nat} {o:AOper} {s r:St} (h:stepA C base g o s=some r):stepA C' base g o s=some r:=by
 obtain⟨dst,op,guard⟩:=o
 unfold stepA at h⊢
 split at h
 ·rename_i hw
  simp only at h
  cases op
  case call f args=>
   simp only at h⊢
   split at h
   ·rename_i v h' c hc
    rw[hC _ _ _ _ _ hc]
    exact h
   ·cases h
  case callv x args=>
   simp only at h⊢
   split at h
   ·split at h
    ·rename_i v h' c hc
     rw[hC _ _ _ _ _ hc]
     exact h
    ·cases h
   ·cases h
  all_goals exact h
 ·rename_i hw
  exact h
 ·cases h
theorem q9f {C C':Caller} (hC:x2n C C') {base:Nat}:∀ {os:List AOper} {g:Nat} {s r:St},z8h C base g os s=some r→z8h C' base g os s=some r
 | [],_,_,_,h=>h
 | o::os,g,s,r,h=>by
   simp only[z8h] at h⊢
   split at h
   ·rename_i s1 h1
    rw[x2o hC h1]
    exact q9f hC h
   ·cases h
theorem q1l {C C':Caller} (hC:x2n C C') {Γ:AProg} {base:Nat}:∀ {os:List AOper} {g:Nat} {s:St} {r},z3a C Γ base g os s=some r→z3a C' Γ base g os s=some r
 | [],_,_,_,h=>h
 | o::os,g,s,r,h=>by
   simp only[z3a] at h⊢
   split at h
   ·rename_i s1 h1
    rw[x2o hC h1]
    simp only[x5] at h⊢
    obtain⟨a,h2,h3⟩:=h
    exact⟨a,q1l hC h2,h3⟩
   ·cases h
theorem j0i {C C':Caller} (hC:x2n C C') {Γ:AProg} {base n:Nat} {ops:List AOper} {ps:List (Nat×Nat)} {s r:St} (h:region C Γ base n ops ps s=some r):region C' Γ base n ops ps s=some r:=by
 unfold region at h⊢
 cases ps with
 | nil=>exact q9f hC h
 | cons p ps=>
   simp only at h⊢
   split at h
   ·rename_i s1 fs h1
    rw[q1l hC h1]
    exact h
   ·cases h
theorem q3r {R R':St→Option (AEx×St)} (hR:∀ s r,R s=some r→R' s=some r) {v:AV} {ts:Tmps} {p q:Nat}:∀ {n:Nat} {m r},q1f R v ts p q n m=some r→q1f R' v ts p q n m=some r
 | 0,_,_,h=>h
 | n + 1,m,r,h=>by
   simp only[q1f] at h⊢
   split at h
   ·rename_i x hx
    split at h
    ·rename_i s hs
     rw[hR _ _ hs]
     exact q3r hR h
    ·cases h
   ·cases h
theorem j9s {Γ:AProg}:∀ k,v5f (z3q Γ k) (z3q Γ (k + 1)):=by
 intro k
 induction k with
 | zero=>intro b c s r h;cases h
 | succ k ih=>
   intro b c s r h
   cases c with
   | skip=>exact h
   | exit i=>exact h
   | ret=>exact h
   | bad=>exact h
   | region n ops ps=>
     rw[z3q] at h⊢
     simp only[x5] at h⊢
     obtain⟨a,h1,h2⟩:=h
     exact⟨a,j0i (q0p ih) h1,h2⟩
   | seq x y=>
     rw[z3q] at h⊢
     split at h
     ·rename_i s1 h1
      rw[ih _ _ _ _ h1]
      exact ih _ _ _ _ h
     ·rename_i hn
      cases hx:z3q Γ k b x s with
      | none=>rw[hx] at h;cases h
      | some q=>
        rw[ih _ _ _ _ hx]
        rw[hx] at h
        split
        ·rename_i s1 e1
         injection e1 with e1
         exact absurd (e1 ▸ hx) (hn s1)
        ·exact h
   | cond x y z=>
     rw[z3q] at h⊢
     split at h
     ·exact ih _ _ _ _ h
     ·cases h
   | block i x=>
     rw[z3q] at h⊢
     cases hx:z3q Γ k b x s with
     | none=>rw[hx] at h;cases h
     | some q=>
       rw[ih _ _ _ _ hx]
       rw[hx] at h
       exact h
   | loop x=>
     rw[z3q] at h⊢
     split at h
     ·rename_i s1 h1
      rw[ih _ _ _ _ h1]
      exact ih _ _ _ _ h
     ·rename_i hn
      cases hx:z3q Γ k b x s with
      | none=>rw[hx] at h;cases h
      | some q=>
        rw[ih _ _ _ _ hx]
        rw[hx] at h
        split
        ·rename_i s1 e1
         injection e1 with e1
         exact absurd (e1 ▸ hx) (hn s1)
        ·exact h
   | rangeB x p q a y=>
     rw[z3q] at h⊢
     split at h
     ·split at h
      ·split at h
       ·rename_i f v _ n hn hi
        simp only[hi,if_true]
        simp only[x5] at h⊢
        obtain⟨m,h1,h2⟩:=h
        refine⟨m,q3r ?_ h1,h2⟩
        intro s r hr
        split at hr
        ·rename_i s1 hs
         rw[ih _ _ _ _ hs]
         exact ih _ _ _ _ hr
        ·rename_i hn2
         cases hx:z3q Γ k b a s with
         | none=>rw[hx] at hr;cases hr
         | some q=>
           rw[ih _ _ _ _ hx]
           rw[hx] at hr
           split
           ·rename_i s1 e1
            injection e1 with e1
            exact absurd (e1 ▸ hx) (hn2 s1)
           ·exact hr
       ·cases h
      ·cases h
     ·cases h
theorem z9l {Γ:AProg} {k k':Nat} (h:k≤k'):v5f (z3q Γ k) (z3q Γ k'):=by
 induction h with
 | refl=>exact fun _ _ _ _ h=>h
 | step _ ih=>exact fun _ _ _ _ h=>j9s _ _ _ _ _ (ih _ _ _ _ h)
theorem x4h {Γ:AProg} {k k':Nat} (h:k≤k'):x2n (z5w Γ k) (z5w Γ k'):=q0p (z9l h)
theorem z7t {Γ:AProg} {k k' b:Nat} {c:ACode} {s:St} {r r'} (h:z3q Γ k b c s=some r) (h':z3q Γ k' b c s=some r'):r=r':=by
 have h1:=z9l (Nat.le_max_left k k') _ _ _ _ h
 have h2:=z9l (Nat.le_max_right k k') _ _ _ _ h'
 rw[h1] at h2
 injection h2
theorem q9g {Γ:AProg} {k k' f:Nat} {asx:List AV} {h:List AObj} {c:Nat} {r r'} (h1:z5w Γ k f asx h c=some r) (h2:z5w Γ k' f asx h c=some r'):r=r':=by
 have h1:=x4h (Nat.le_max_left k k') _ _ _ _ _ h1
 have h2:=x4h (Nat.le_max_right k k') _ _ _ _ _ h2
 rw[h1] at h2
 injection h2
abbrev Post:=AEx→St→Prop
inductive Kf where
 | seq (b:ACode)
 | block (id:Nat)
def Kf.next:Kf→AEx→ACode
 | .seq b, .norm=>b
 | .seq _, .exit i=> .exit i
 | .seq _, .ret=> .ret
 | .block _, .norm=> .skip
 | .block i, .exit j=>if j=i then .skip else .exit j
 | .block _, .ret=> .ret
def Kf.on:Kf→ACode→ACode
 | .seq b,a=> .seq a b
 | .block i,a=> .block i a
section
variable (Γ:AProg)
def W (base:Nat) (c:ACode) (s:St) (Q:Post):Prop:=∃ k e s',z3q Γ k base c s=some (e,s')∧Q e s'
def WC (f:Nat) (args:List AV) (h:List AObj) (clk:Nat) (Q:AV→List AObj→Nat→Prop):Prop:=∃ k v h' c,z5w Γ k f args h clk=some (v,h',c)∧Q v h' c
def K (base:Nat) (c:ACode):List Kf→St→Post→Prop
 | [],s,Q=>W Γ base c s Q
 | f::ks,s,Q=>W Γ base c s fun e s'=>K base (f.next e) ks s' Q
end
section
variable {Γ:AProg} {base:Nat}
theorem q7d {s:St} {Q:Post}:W Γ base .skip s Q=Q .norm s:=by
 refine propext ⟨?_,fun h=>⟨1,_,_,rfl,h⟩⟩
 rintro ⟨k,e,s',h,hq⟩
 obtain⟨rfl⟩:=z7t (k':=1) h rfl
 exact hq
theorem j3b {i:Nat} {s:St} {Q:Post}:W Γ base (.exit i) s Q=Q (.exit i) s:=by
 refine propext ⟨?_,fun h=>⟨1,_,_,rfl,h⟩⟩
 rintro ⟨k,e,s',h,hq⟩
 obtain⟨rfl⟩:=z7t (k':=1) h rfl
 exact hq
theorem k5l {s:St} {Q:Post}:W Γ base .ret s Q=Q .ret s:=by
 refine propext ⟨?_,fun h=>⟨1,_,_,rfl,h⟩⟩
 rintro ⟨k,e,s',h,hq⟩
 obtain⟨rfl⟩:=z7t (k':=1) h rfl
 exact hq
theorem u4f {f:Kf} {c:ACode} {s:St} {Q:Post}:W Γ base (f.on c) s Q=W Γ base c s fun e s'=>W Γ base (f.next e) s' Q:=by
 apply propext
 constructor
 ·rintro ⟨k,e,s',h,hq⟩
  cases k with
  | zero=>cases h
  | succ k=>
    cases f with
    | seq b=>
      rw[Kf.on,z3q] at h
      split at h
      ·rename_i s1 h1
       exact⟨k, .norm,s1,h1,k,e,s',h,hq⟩
      ·rename_i hn
       cases e with
       | norm=>exact absurd h (hn s')
       | exit i=>exact⟨k,_,_,h,1,_,_,rfl,hq⟩
       | ret=>exact⟨k,_,_,h,1,_,_,rfl,hq⟩
    | block i=>
      rw[Kf.on,z3q] at h
      split at h
      ·rename_i j s1 h1
       split at h
       ·rename_i hj
        injection h with h
        injection h with e1 e2
        subst e1;subst e2
        exact⟨k,_,_,h1,by simp only[Kf.next,if_pos hj];exact⟨1,_,_,rfl,hq⟩⟩
       ·rename_i hj
        injection h with h
        injection h with e1 e2
        subst e1;subst e2
        exact⟨k,_,_,h1,by simp only[Kf.next,if_neg hj];exact⟨1,_,_,rfl,hq⟩⟩
      ·rename_i hn
       cases e with
       | norm=>exact⟨k,_,_,h,1,_,_,rfl,hq⟩
       | exit j=>exact absurd h (hn j s')
       | ret=>exact⟨k,_,_,h,1,_,_,rfl,hq⟩
 ·rintro ⟨k,e,s1,h1,k',e',s',h2,hq⟩
  have h1':=z9l (Nat.le_max_left k k') _ _ _ _ h1
  have h2':=z9l (Nat.le_max_right k k') _ _ _ _ h2
  refine⟨max k k' + 1,e',s', ?_,hq⟩
  cases f with
  | seq b=>
    rw[Kf.on,z3q]
    simp only[h1']
    cases e with
    | norm=>exact h2'
    | exit i=>exact (congrArg some (z7t (k':=1) h2 rfl)).symm
    | ret=>exact (congrArg some (z7t (k':=1) h2 rfl)).symm
  | block i=>
    rw[Kf.on,z3q]
    simp only[h1']
    cases e with
    | norm=>exact (congrArg some (z7t (k':=1) h2 rfl)).symm
    | exit j=>
      simp only[Kf.next] at h2
      by_cases hj:j=i
      ·simp only[if_pos hj] at h2⊢
       exact (congrArg some (z7t (k':=1) h2 rfl)).symm
      ·simp only[if_neg hj] at h2⊢
       exact (congrArg some (z7t (k':=1) h2 rfl)).symm
    | ret=>exact (congrArg some (z7t (k':=1) h2 rfl)).symm
variable {ks:List Kf} {s s':St} {Q:Post} {c c':ACode}
theorem w2q (h:∀ Q,W Γ base c s Q=W Γ base c' s' Q):K Γ base c ks s Q=K Γ base c' ks s' Q:=by
 cases ks <;> exact h _
theorem u1i {f:Kf}:K Γ base (f.on c) ks s Q=K Γ base c (f::ks) s Q:=by
 cases ks <;> exact u4f
theorem v5g {a b:ACode}:K Γ base (.seq a b) ks s Q=K Γ base a (.seq b::ks) s Q:=u1i (f:= .seq b)
theorem v5h {i:Nat} {a:ACode}:K Γ base (.block i a) ks s Q=K Γ base a (.block i::ks) s Q:=u1i (f:= .block i)
theorem q5y {b:ACode}:K Γ base .skip (.seq b::ks) s Q=K Γ base b ks s Q:=q7d
theorem x7u {i:Nat}:K Γ base .skip (.block i::ks) s Q=K Γ base .skip ks s Q:=q7d
theorem j6q {b:ACode} {i:Nat}:K Γ base (.exit i) (.seq b::ks) s Q=K Γ base (.exit i) ks s Q:=j3b
theorem x7v {i j:Nat}:K Γ base (.exit j) (.block i::ks) s Q=K Γ base (if j=i then .skip else .exit j) ks s Q:=j3b
theorem j9t {b:ACode}:K Γ base .ret (.seq b::ks) s Q=K Γ base .ret ks s Q:=k5l
theorem j0j {i:Nat}:K Γ base .ret (.block i::ks) s Q=K Γ base .ret ks s Q:=k5l
theorem x2p:K Γ base .skip [] s Q=Q .norm s:=q7d
theorem x2q {i:Nat}:K Γ base (.exit i) [] s Q=Q (.exit i) s:=j3b
theorem x7w:K Γ base .ret [] s Q=Q .ret s:=k5l
def BK (Γ:AProg) (base:Nat) (x:AV) (a b:ACode) (ks:List Kf) (s:St) (Q:Post):Prop:=
 match x with
 | .bool true=>K Γ base a ks s Q
 | .bool false=>K Γ base b ks s Q
 | _=>False
theorem v5i {a b:ACode}:BK Γ base (.bool true) a b ks s Q=K Γ base a ks s Q:=(rfl)
theorem k5m {a b:ACode}:BK Γ base (.bool false) a b ks s Q=K Γ base b ks s Q:=(rfl)
theorem z8m {x:Bool} {a b:ACode} (ha:x=true→K Γ base a ks s Q) (hb:x=false→K Γ base b ks s Q):BK Γ base (.bool x) a b ks s Q:=by
 cases x
 ·exact hb rfl
 ·exact ha rfl
theorem w2r {x:AOpd} {a b:ACode}:W Γ base (.cond x a b) s Q=match x.ev s.ts with
  | .bool true=>W Γ base a s Q
  | .bool false=>W Γ base b s Q
  | _=>False:=by
 apply propext
 have key:∀ t,x.ev s.ts= .bool t→(W Γ base (.cond x a b) s Q↔W Γ base (if t then a else b) s Q):=by
  intro t ht
  constructor
  ·rintro ⟨k,e,s',h,hq⟩
   cases k with
   | zero=>cases h
   | succ k=>
     rw[z3q] at h
     simp only[ht] at h
     exact⟨k,e,s',h,hq⟩
  ·rintro ⟨k,e,s',h,hq⟩
   exact⟨k + 1,e,s',by rw[z3q];simp only[ht];exact h,hq⟩
 split
 ·rename_i h;exact key true h
 ·rename_i h;exact key false h
 ·rename_i h1 h2
  refine⟨?_,False.elim⟩
  rintro ⟨k,e,s',h,hq⟩
  cases k with
  | zero=>cases h
  | succ k=>
    rw[z3q] at h
    split at h
    ·rename_i t ht
     cases t
     ·exact h2 ht
     ·exact h1 ht
    ·cases h
theorem w2s {x:AOpd} {a b:ACode}:K Γ base (.cond x a b) ks s Q=BK Γ base (x.ev s.ts) a b ks s Q:=by
 unfold BK
 cases ks <;> · unfold K;rw[w2r]
def q9h (Γ:AProg) (base:Nat) (s:St) (o:AOper) (h':List AObj):List Nat×List Nat:=
 if z5n s.ts o.guard=some true then foot Γ s.h h' base s.ts o.op else ([],[])
def z1r (N:Nat) (ops:List AOper) (fs:List (List Nat×List Nat)) (ps:List (Nat×Nat)):Bool:=
 ps.all fun p=>apart (fs.getD p.1 ([],[])) (fs.getD p.2 ([],[])) && (!(z1n ops p.1 || z1n ops p.2) || ((z1t fs p.1++z1t fs p.2).all (· < N)))
inductive Md where
 | plain
 | draw (N:Nat) (ops:List AOper) (ps:List (Nat×Nat)) (fs:List (List Nat×List Nat))
def Md.add (f:List Nat×List Nat):Md→Md
 | .plain=> .plain
 | .draw N ops ps fs=> .draw N ops ps (fs++[f])
def Md.adds:Md→List (List Nat×List Nat)→Md
 | m,[]=>m
 | m,f::fs=>(m.add f).adds fs
def Md.ok:Md→Bool
 | .plain=>true
 | .draw N ops ps fs=>z1r N ops fs ps
def O (Γ:AProg) (base:Nat) (m:Md) (g:Nat) (os:List AOper) (s:St) (ks:List Kf) (Q:Post):Prop:=
 ∃ k s' fs,z3a (z0k (z3q Γ k) Γ) Γ base g os s=some (s',fs)∧(m.adds fs).ok=true∧K Γ base .skip ks s' Q
variable {m:Md} {g:Nat} {os:List AOper}
theorem q9i:O Γ base .plain g [] s ks Q=K Γ base .skip ks s Q:=by
 refine propext ⟨?_,fun h=>⟨0,s,[],rfl,rfl,h⟩⟩
 rintro ⟨k,s',fs,h,_,hq⟩
 simp only[z3a,Option.some.injEq,Prod.mk.injEq] at h
 obtain⟨rfl,rfl⟩:=h
 exact hq
theorem j6r {N:Nat} {ops:List AOper} {ps:List (Nat×Nat)} {fs:List (List Nat×List Nat)}:O Γ base (.draw N ops ps fs) g [] s ks Q=(z1r N ops fs ps=true∧K Γ base .skip ks s Q):=by
 refine propext ⟨?_,fun h=>⟨0,s,[],rfl,h.1,h.2⟩⟩
 rintro ⟨k,s',fs',h,h2,hq⟩
 simp only[z3a,Option.some.injEq,Prod.mk.injEq] at h
 obtain⟨rfl,rfl⟩:=h
 exact⟨h2,hq⟩
theorem q3s {C:Caller}:∀ {os:List AOper} {g:Nat} {s:St},(z3a C Γ base g os s).map (·.1)=z8h C base g os s
 | [],_,_=>rfl
 | o::os,g,s=>by
   simp only[z3a,z8h]
   split
   ·rw[←q3s]
    simp only[Option.map_map]
    rfl
   ·rfl
theorem x2r:∀ {fs:List (List Nat×List Nat)},(Md.plain.adds fs)= .plain
 | []=>rfl
 | _::fs=>x2r (fs:=fs)
theorem q4u {N:Nat} {ops:List AOper} {ps:List (Nat×Nat)}:∀ {fs gs:List (List Nat×List Nat)},(Md.draw N ops ps gs).adds fs= .draw N ops ps (gs++fs)
 | [],gs=>by rw[w9];rfl
 | f::fs,gs=>by
   simp only[Md.adds,Md.add]
   rw[q4u,List.append_assoc]
   rfl
theorem q3d {n:Nat}:W Γ base (.region n os []) s Q=∃ k s',z8h (z0k (z3q Γ k) Γ) base s.clk os ⟨s.ts,s.h,s.clk + n⟩=some s'∧Q .norm s':=by
 apply propext
 constructor
 ·rintro ⟨k,e,s',h,hq⟩
  cases k with
  | zero=>cases h
  | succ k=>
    rw[z3q] at h
    simp only[region,x5] at h
    obtain⟨a,h1,h2⟩:=h
    simp only[Prod.mk.injEq] at h2
    obtain⟨rfl,rfl⟩:=h2
    exact⟨k,a,h1,hq⟩
 ·rintro ⟨k,s',h,hq⟩
  exact⟨k + 1, .norm,s',by rw[z3q];simp only[region,h,j5],hq⟩
theorem q4v {n:Nat} {p:Nat×Nat} {ps:List (Nat×Nat)}:W Γ base (.region n os (p::ps)) s Q=∃ k s' fs,z3a (z0k (z3q Γ k) Γ) Γ base s.clk os ⟨s.ts,s.h,s.clk + n⟩=some (s',fs)∧z1r s.h.length os fs (p::ps)=true∧Q .norm s':=by
 apply propext
 constructor
 ·rintro ⟨k,e,s',h,hq⟩
  cases k with
  | zero=>cases h
  | succ k=>
    rw[z3q] at h
    simp only[region,x5] at h
    obtain⟨a,h1,h2⟩:=h
    simp only[Prod.mk.injEq] at h2
    obtain⟨rfl,rfl⟩:=h2
    split at h1
    ·rename_i s1 fs h3
     split at h1
     ·rename_i h4
      injection h1 with h1
      subst h1
      exact⟨k,s1,fs,h3,h4,hq⟩
     ·cases h1
    ·cases h1
 ·rintro ⟨k,s',fs,h,h2,hq⟩
  refine⟨k + 1, .norm,s', ?_,hq⟩
  unfold z1r at h2
  rw[z3q]
  simp only[region,h]
  rw[if_pos h2]
  rfl
theorem k5n {n:Nat}:K Γ base (.region n os []) ks s Q=O Γ base .plain s.clk os ⟨s.ts,s.h,s.clk + n⟩ ks Q:=by
 have key:∀ R:St→Prop,(∃ k s',z8h (z0k (z3q Γ k) Γ) base s.clk os ⟨s.ts,s.h,s.clk + n⟩=some s'∧R s')=∃ k s' fs,z3a (z0k (z3q Γ k) Γ) Γ base s.clk os ⟨s.ts,s.h,s.clk + n⟩=some (s',fs)∧(Md.plain.adds fs).ok=true∧R s':=by
  intro R
  apply propext
  constructor
  ·rintro ⟨k,s',h,hr⟩
   rw[←q3s (Γ:=Γ),x5] at h
   obtain⟨⟨s1,fs⟩,h1,rfl⟩:=h
   exact⟨k,s1,fs,h1,by rw[x2r];rfl,hr⟩
  ·rintro ⟨k,s',fs,h,_,hr⟩
   exact⟨k,s',by rw[←q3s (Γ:=Γ),h];rfl,hr⟩
 unfold O
 cases ks with
 | nil=>
   unfold K
   rw[q3d,key]
   simp only[q7d]
 | cons f ks=>
   unfold K
   rw[q3d,key]
   simp only[q7d]
theorem z1p {n:Nat} {p:Nat×Nat} {ps:List (Nat×Nat)}:K Γ base (.region n os (p::ps)) ks s Q=O Γ base (.draw s.h.length os (p::ps) []) s.clk os ⟨s.ts,s.h,s.clk + n⟩ ks Q:=by
 unfold O
 cases ks with
 | nil=>
   unfold K
   rw[q4v]
   simp only[q7d,q4u,y8,Md.ok]
 | cons f ks=>
   unfold K
   rw[q4v]
   simp only[q7d,q4u,y8,Md.ok]
theorem v1d {o:AOper} {s1:St} (h:∀ k,stepA (z0k (z3q Γ k) Γ) base g o s=some s1):O Γ base m g (o::os) s ks Q=O Γ base (m.add (q9h Γ base s o s1.h)) (g + 1) os s1 ks Q:=by
 unfold O
 apply propext
 constructor
 ·rintro ⟨k,s',fs,h1,h2,h3⟩
  simp only[z3a,h k,x5] at h1
  obtain⟨⟨s2,fs2⟩,h4,h5⟩:=h1
  simp only[Prod.mk.injEq] at h5
  obtain⟨rfl,rfl⟩:=h5
  exact⟨k,s2,fs2,h4,h2,h3⟩
 ·rintro ⟨k,s',fs,h1,h2,h3⟩
  exact⟨k,s',q9h Γ base s o s1.h::fs,by simp only[z3a,h k,h1,j5];rfl,h2,h3⟩
theorem j0k {o:AOper} (h:∀ k,stepA (z0k (z3q Γ k) Γ) base g o s=none):O Γ base m g (o::os) s ks Q=False:=by
 unfold O
 refine propext ⟨?_,False.elim⟩
 rintro ⟨k,s',fs,h1,_⟩
 simp only[z3a,h k] at h1
 cases h1
variable {ts:Tmps} {h:List AObj} {clk:Nat} {dst:Option Nat}
def PO (Γ:AProg) (base:Nat) (x:Option (AV×List AObj)) (f:List Nat×List Nat) (m:Md) (dst:Option Nat) (g:Nat) (os:List AOper) (ts:Tmps) (clk:Nat) (ks:List Kf) (Q:Post):Prop:=
 match x with
 | some (v,h')=>O Γ base (m.add f) (g + 1) os ⟨z8g ts dst v,h',clk⟩ ks Q
 | none=>False
theorem z6n {op:AOp} (hop:op.isCall=false):O Γ base m g (⟨dst,op,none⟩::os) ⟨ts,h,clk⟩ ks Q=PO Γ base (prim h base g ts op) (foot Γ [] [] base ts op) m dst g os ts clk ks Q:=by
 have hf:∀ h',q9h Γ base ⟨ts,h,clk⟩ ⟨dst,op,none⟩ h'=foot Γ [] [] base ts op:=by
  intro h'
  cases op <;> first | rfl | cases hop
 have hs:∀ k,stepA (z0k (z3q Γ k) Γ) base g ⟨dst,op,none⟩ ⟨ts,h,clk⟩=match prim h base g ts op with
   | some (v,h')=>some ⟨z8g ts dst v,h',clk⟩
   | none=>none:=by
  intro k
  cases op <;> first | rfl | cases hop
 unfold PO
 split
 ·rename_i v h' hp
  rw[v1d (s1:=⟨z8g ts dst v,h',clk⟩) (fun k=>by rw[hs k,hp]),hf]
 ·rename_i hp
  exact j0k (fun k=>by rw[hs k,hp])
def gW (x:AV) (b:Bool):Option Bool:=
 match x with
 | .bool y=>some (y==b)
 | .tup []=>some false
 | _=>none
theorem v5j {y b:Bool}:gW (.bool y) b=some (y==b):=(rfl)
theorem w2t {b:Bool}:gW (.tup []) b=some false:=(rfl)
def GO (Γ:AProg) (base:Nat) (w:Option Bool) (op:AOp) (m:Md) (dst:Option Nat) (g:Nat) (os:List AOper) (s:St) (ks:List Kf) (Q:Post):Prop:=
 match w with
 | some true=>O Γ base m g (⟨dst,op,none⟩::os) s ks Q
 | some false=>O Γ base (m.add ([],[])) (g + 1) os ⟨z8g s.ts dst (.tup []),s.h,s.clk⟩ ks Q
 | none=>False
theorem v5k {op:AOp}:GO Γ base (some true) op m dst g os s ks Q=O Γ base m g (⟨dst,op,none⟩::os) s ks Q:=(rfl)
theorem k5o {op:AOp}:GO Γ base (some false) op m dst g os ⟨ts,h,clk⟩ ks Q=O Γ base (m.add ([],[])) (g + 1) os ⟨z8g ts dst (.tup []),h,clk⟩ ks Q:=(rfl)
theorem v5l {op:AOp} {t:Nat} {b:Bool}:O Γ base m g (⟨dst,op,some (t,b)⟩::os) ⟨ts,h,clk⟩ ks Q=GO Γ base (gW (ts t) b) op m dst g os ⟨ts,h,clk⟩ ks Q:=by
 have hw:z5n ts (some (t,b))=gW (ts t) b:=rfl
 unfold GO
 split
 ·rename_i h1
  rw[h1] at hw
  unfold O
  have:∀ k,z3a (z0k (z3q Γ k) Γ) Γ base g (⟨dst,op,some (t,b)⟩::os) ⟨ts,h,clk⟩=z3a (z0k (z3q Γ k) Γ) Γ base g (⟨dst,op,none⟩::os) ⟨ts,h,clk⟩:=by
   intro k
   have h2:z5n ts none=some true:=rfl
   simp only[z3a,stepA,hw,h2]
  simp only[this]
 ·rename_i h1
  rw[h1] at hw
  rw[v1d (s1:=⟨z8g ts dst (.tup []),h,clk⟩) (fun k=>by simp only[stepA,hw])]
  simp only[q9h,hw,Option.some.injEq,j9,if_false]
 ·rename_i h1
  rw[h1] at hw
  exact j0k (fun k=>by simp only[stepA,hw])
def CK (Γ:AProg) (base f:Nat) (asx:List AV) (h:List AObj) (clk:Nat) (m:Md) (dst:Option Nat) (g:Nat) (os:List AOper) (ts:Tmps) (ks:List Kf) (Q:Post):Prop:=
 WC Γ f asx h clk fun v h' c=>O Γ base (m.add (z3k (z0z Γ f asx h) h h')) (g + 1) os ⟨z8g ts dst v,h',c⟩ ks Q
theorem j9u {o:AOper} {f:Nat} {asx:List AV} (hs:∀ k,stepA (z0k (z3q Γ k) Γ) base g o ⟨ts,h,clk⟩=match z5w Γ k f asx h clk with
   | some (v,h',c)=>some ⟨z8g ts o.dst v,h',c⟩
   | none=>none) (hf:∀ h',q9h Γ base ⟨ts,h,clk⟩ o h'=z3k (z0z Γ f asx h) h h'):O Γ base m g (o::os) ⟨ts,h,clk⟩ ks Q=CK Γ base f asx h clk m o.dst g os ts ks Q:=by
 unfold CK
 apply propext
 constructor
 ·rintro ⟨k,s',fs,h1,h2,h3⟩
  simp only[z3a,hs k] at h1
  cases hc:z5w Γ k f asx h clk with
  | none=>rw[hc] at h1;cases h1
  | some r=>
    obtain⟨v,h',c⟩:=r
    rw[hc] at h1
    simp only[x5] at h1
    obtain⟨⟨s2,fs2⟩,h4,h5⟩:=h1
    simp only[Prod.mk.injEq] at h5
    obtain⟨rfl,rfl⟩:=h5
    refine⟨k,v,h',c,hc,k,s2,fs2,h4, ?_,h3⟩
    rw[←hf]
    exact h2
 ·rintro ⟨k,v,h',c,hc,k',s2,fs2,h4,h2,h3⟩
  refine⟨max k k',s2,q9h Γ base ⟨ts,h,clk⟩ o h'::fs2, ?_,by rw[hf];exact h2,h3⟩
  simp only[z3a,hs,x4h (Nat.le_max_left k k') _ _ _ _ _ hc,q1l (q0p (z9l (Nat.le_max_right k k'))) h4,j5]
  rfl
theorem w2u {f:Nat} {args:List AOpd}:O Γ base m g (⟨dst, .call f args,none⟩::os) ⟨ts,h,clk⟩ ks Q=CK Γ base f (args.map (·.ev ts)) h clk m dst g os ts ks Q:=
 j9u (fun _=>rfl) (fun _=>rfl)
def VK (Γ:AProg) (base:Nat) (x:AV) (asx:List AV) (h:List AObj) (clk:Nat) (m:Md) (dst:Option Nat) (g:Nat) (os:List AOper) (ts:Tmps) (ks:List Kf) (Q:Post):Prop:=
 match x with
 | .fn f cap=>CK Γ base f (asx++cap) h clk m dst g os ts ks Q
 | _=>False
theorem y4t {f:Nat} {cap asx:List AV}:VK Γ base (.fn f cap) asx h clk m dst g os ts ks Q=CK Γ base f (asx++cap) h clk m dst g os ts ks Q:=(rfl)
theorem v5m {x:AOpd} {args:List AOpd}:O Γ base m g (⟨dst, .callv x args,none⟩::os) ⟨ts,h,clk⟩ ks Q=VK Γ base (x.ev ts) (args.map (·.ev ts)) h clk m dst g os ts ks Q:=by
 unfold VK
 split
 ·rename_i f cap hx
  refine j9u (fun k=> ?_) (fun h'=> ?_)
  ·simp only[stepA,z5n,hx]
   rfl
  ·simp only[q9h,z5n,foot,hx,if_true]
 ·rename_i hn
  refine j0k (fun k=> ?_)
  simp only[stepA,z5n]
def Pure (Γ:AProg) (f:Nat) (args:List AV) (v:AV):Prop:=∀ h clk,(∃ k,z5w Γ k f args h clk=some (v,h,clk))∧z0z Γ f args h=[]
theorem z0a {f:Nat} {asx:List AV} {v:AV} (hp:Pure Γ f asx v):CK Γ base f asx h clk m dst g os ts ks Q=O Γ base (m.add ([],[])) (g + 1) os ⟨z8g ts dst v,h,clk⟩ ks Q:=by
 obtain⟨⟨k,hk⟩,hf⟩:=hp h clk
 unfold CK
 apply propext
 constructor
 ·rintro ⟨k',v',h',c,hc,hq⟩
  have:=q9g hk hc
  simp only[Prod.mk.injEq] at this
  obtain⟨rfl,rfl,rfl⟩:=this
  rw[hf] at hq
  exact hq
 ·intro hq
  refine⟨k,v,h,clk,hk, ?_⟩
  rw[hf]
  exact hq
theorem z1f {b:ACode} (I:Nat→St→Prop) (n:Nat) (h0:I n s)
  (hstep:∀ m s (P:Post),I m s→(∀ m' s',m' < m→I m' s'→P .norm s')→(∀ i s',K Γ base (.exit i) ks s' Q→P (.exit i) s')→(∀ s',K Γ base .ret ks s' Q→P .ret s')→K Γ base b [] s P):K Γ base (.loop b) ks s Q:=by
 have key:∀ R:Post,(∀ m s (P:Post),I m s→(∀ m' s',m' < m→I m' s'→P .norm s')→(∀ i s',R (.exit i) s'→P (.exit i) s')→(∀ s',R .ret s'→P .ret s')→W Γ base b s P)→W Γ base (.loop b) s R:=by
  intro R hst
  clear hstep
  induction n using Nat.strongRecOn generalizing s with
  | ind n ih=>
    obtain⟨k,e,s1,h1,h2⟩:=hst n s (fun e s'=>match e with
     | .norm=>∃ m',m' < n∧I m' s'
     | e=>R e s') h0 (fun m' s' hm hi=>⟨m',hm,hi⟩) (fun i s' h=>h) (fun s' h=>h)
    cases e with
    | norm=>
      obtain⟨m',hm,hi⟩:=h2
      obtain⟨k2,e2,s2,h3,h4⟩:=ih m' hm hi
      refine⟨max k k2 + 1,e2,s2, ?_,h4⟩
      rw[z3q]
      simp only[z9l (Nat.le_max_left k k2) _ _ _ _ h1]
      exact z9l (Nat.le_max_right k k2) _ _ _ _ h3
    | exit i=>exact⟨k + 1, .exit i,s1,by rw[z3q];simp only[h1],h2⟩
    | ret=>exact⟨k + 1, .ret,s1,by rw[z3q];simp only[h1],h2⟩
 cases ks with
 | nil=>
   refine key Q fun m s P hi hn he hr=>hstep m s P hi hn (fun i s' h=> ?_) (fun s' h=> ?_)
   ·exact he i s' (by rw[x2q] at h;exact h)
   ·exact hr s' (by rw[x7w] at h;exact h)
 | cons f ks=>
   refine key _ fun m s P hi hn he hr=>hstep m s P hi hn (fun i s' h=> ?_) (fun s' h=> ?_)
   ·refine he i s' ?_
    unfold K at h
    rw[j3b] at h
    exact h
   ·refine hr s' ?_
    unfold K at h
    rw[k5l] at h
    exact h
theorem k5p {x:AOpd} {p q:Nat} {a b:ACode} {f n:Nat} {v:AV} (hx:x.ev s.ts= .bwd f v) (hn:z6v v=some n) (hf:Γ.iters.contains f=true) (J:Nat→List AObj→Nat→Prop)
  (h0:J n s.h s.clk) (hstep:∀ i h c (P:Post),i < n→J (i + 1) h c→(∀ s',J i s'.h s'.clk→P .norm s')→∃ xv,q6s h v i=some xv∧K Γ base a [.seq b] ⟨upd (upd s.ts p (.int .i64 i)) q xv,h,c⟩ P)
  (hQ:∀ h c,J 0 h c→K Γ base .skip ks ⟨s.ts,h,c⟩ Q):K Γ base (.rangeB x p q a b) ks s Q:=by
 have key:∀ i h c,i≤n→J i h c→∃ h' c',J 0 h' c'∧∃ k,q1f (fun s=>match z3q Γ k base a s with
   | some (.norm,s')=>z3q Γ k base b s'
   | r=>r) v s.ts p q i (h,c)=some (h',c'):=by
  intro i
  induction i with
  | zero=>intro h c _ hj;exact⟨h,c,hj,0,rfl⟩
  | succ i ih=>
    intro h c hi hj
    obtain⟨xv,hxv,hw⟩:=hstep i h c (fun e s'=>e= .norm∧J i s'.h s'.clk) (by omega) hj (fun s' h=>⟨rfl,h⟩)
    rw[←v5g] at hw
    obtain⟨k,e,s1,h1,rfl,hj2⟩:=hw
    obtain⟨h',c',h5,k2,h6⟩:=ih s1.h s1.clk (by omega) hj2
    cases k with
    | zero=>cases h1
    | succ k=>
    rw[z3q] at h1
    have hle:∀ {k k':Nat},k≤k'→∀ s r,(match z3q Γ k base a s with
     | some (.norm,s')=>z3q Γ k base b s'
     | r=>r)=some r→(match z3q Γ k' base a s with
     | some (.norm,s')=>z3q Γ k' base b s'
     | r=>r)=some r:=by
     intro k k' hk s r hr
     cases hx:z3q Γ k base a s with
     | none=>rw[hx] at hr;cases hr
     | some q=>
       rw[hx] at hr
       rw[z9l hk _ _ _ _ hx]
       obtain⟨e,s2⟩:=q
       cases e with
       | norm=>exact z9l hk _ _ _ _ hr
       | exit i=>exact hr
       | ret=>exact hr
    refine⟨h',c',h5,max k k2, ?_⟩
    simp only[q1f,hxv]
    rw[hle (Nat.le_max_left k k2) _ _ h1]
    exact q3r (hle (Nat.le_max_right k k2)) h6
 obtain⟨h',c',h1,k,h2⟩:=key n s.h s.clk (x7 _) h0
 have:=hQ h' c' h1
 have e1:z3q Γ (k + 1) base (.rangeB x p q a b) s=some (.norm,⟨s.ts,h',c'⟩):=by
  rw[z3q]
  simp only[hx,hn,hf,if_true]
  exact congrArg (Option.map fun m=>(AEx.norm,(⟨s.ts,m.1,m.2⟩:St))) h2
 cases ks with
 | nil=>
   rw[x2p] at this
   exact⟨k + 1,_,_,e1,this⟩
 | cons f ks=>
   unfold K at this
   rw[q7d] at this
   exact⟨k + 1,_,_,e1,this⟩
end
end
section
mutual
def AV.cv:AV→AV
 | .agg cs=> .agg (cvL cs)
 | .tup cs=> .tup (cvL cs)
 | .sl xs _=> .sl xs .no
 | v=>v
def cvL:List AV→List AV
 | []=>[]
 | v::vs=>v.cv::cvL vs
end
mutual
theorem q0q {h:List AObj}:∀ {v:AV},v.obs=[]→conv h v=some v.cv
 | .agg cs,ho=>by
   simp only[conv,AV.cv,q4w (by simpa only[AV.obs] using ho),j5]
 | .tup cs,ho=>by
   simp only[conv,AV.cv,q4w (by simpa only[AV.obs] using ho),j5]
 | .ob ..,ho=>by simp[AV.obs] at ho
 | .sl _ _,_=>rfl
 | .undef,_=>rfl
 | .int ..,_=>rfl
 | .bool _,_=>rfl
 | .str _,_=>rfl
 | .ptr ..,_=>rfl
 | .iptr ..,_=>rfl
 | .nilptr,_=>rfl
 | .mp ..,_=>rfl
 | .nilmap,_=>rfl
 | .fn ..,_=>rfl
 | .nilfn,_=>rfl
 | .nilif,_=>rfl
 | .bwd ..,_=>rfl
theorem q4w {h:List AObj}:∀ {vs:List AV},z4u vs=[]→z8f h vs=some (cvL vs)
 | [],_=>rfl
 | v::vs,ho=>by
   simp only[z4u,n7] at ho
   simp only[z8f,cvL,q0q ho.1,q4w ho.2]
end
theorem z2g {h:List AObj}:∀ {vs:List AV} {i:Nat},z4u vs=[]→z1q h [] i vs=some (cvL vs)
 | [],_,_=>rfl
 | v::vs,i,ho=>by
   simp only[z4u,n7] at ho
   simp only[z1q,cvL,List.contains_nil,j9,if_false,q0q ho.1,z2g ho.2]
theorem z6o:∀ {vs:List AV} {i:Nat},z4u vs=[]→z0p [] i vs=[]
 | [],_,_=>rfl
 | v::vs,i,ho=>by
   simp only[z4u,n7] at ho
   simp only[z0p,List.contains_nil,j9,if_false,ho.1,z6o ho.2,w9]
theorem z4h {T:List Nat}:∀ {h:List AObj} {k:Nat},(maskFrom T k h).length=h.length
 | [],_=>rfl
 | o::h,k=>by simp[maskFrom,z4h]
theorem q1m {T:List Nat}:∀ {h:List AObj} {k i:Nat},T.contains (k + i)=true→(maskFrom T k h)[i]? =h[i]?
 | [],_,_,_=>rfl
 | o::h,k,0,ht=>by
   rw[b4] at ht
   simp only[maskFrom,ht,if_true,List.getElem?_cons_zero]
 | o::h,k,i + 1,ht=>by
   simp only[maskFrom,l9]
   exact q1m (by rw[d3,Nat.add_comm 1 i];exact ht)
theorem z9w:∀ {h h':List AObj} {k:Nat},z0n [] k h h'=h
 | [],[],_=>rfl
 | [],_::_,_=>rfl
 | o::h,[],_=>rfl
 | o::h,o'::h',k=>by simp[z0n,z9w]
theorem x7x {s:Nat}:∀ {h h':List AObj} {k:Nat} {o:AObj},s < h.length→h'[s]? =some o→z0n [k + s] k h h'=h.set s o
 | [],h',k,o,hs,_=>by simp at hs
 | a::h,[],k,o,hs,ho=>by simp at ho
 | a::h,b::h',k,o,hs,ho=>by
   cases s with
   | zero=>
     simp at ho
     subst ho
     have:∀ {h h':List AObj} {j:Nat},k < j→z0n [k] j h h'=h:=by
      intro h
      induction h with
      | nil=>intro h' j _;cases h' <;> rfl
      | cons x h ih=>
        intro h' j hj
        cases h' with
        | nil=>rfl
        | cons y h'=>
          have hne:¬ j=k:=by omega
          simp only[z0n,List.contains_cons,List.contains_nil,Bool.or_false,beq_iff_eq,hne,if_false]
          rw[ih (by omega)]
     simp only[z0n,b4,List.contains_cons,List.contains_nil,Bool.or_false,beq_self_eq_true,if_true,List.set_cons_zero]
     rw[this (by omega)]
   | succ s=>
     have hne:¬ k=k + (s + 1):=by omega
     simp only[z0n,List.contains_cons,List.contains_nil,Bool.or_false,beq_iff_eq,hne,if_false,List.set_cons_succ]
     rw[show k + (s + 1)=k + 1 + s by omega,x7x (by simpa using hs) (by simpa using ho)]
def j3c (T:List Nat) (os:List (Nat×Nat)):Bool:=os.all fun p=> !T.contains p.1
def RV (T:List Nat) (x:Option (List AV)) (R:AV→List AObj→Prop) (h:List AObj):Prop:=
 match x with
 | some vs=>∃ v,conv h (z1k vs)=some v∧v.ids=[]∧j3c T (z1k vs).obs=true∧R v h
 | none=>False
def j9v (T:List Nat) (rs:List ARes) (R:AV→List AObj→Prop):Post:=fun e s=>(∀ i,e≠ .exit i)∧RV T (z1s s.h s.ts rs) R s.h
theorem z0h {T:List Nat} {vs:List AV} {R:AV→List AObj→Prop} {h:List AObj} (ho:(z1k vs).obs=[]) (hi:(z1k vs).cv.ids=[]):RV T (some vs) R h=R (z1k vs).cv h:=by
 apply propext
 constructor
 ·rintro ⟨v,h1,_,_,h2⟩
  rw[q0q ho] at h1
  injection h1 with h1
  subst h1
  exact h2
 ·exact fun hr=>⟨_,q0q ho,hi,by rw[ho];rfl,hr⟩
section
variable {Γ:AProg}
theorem q5z {s:Nat}:∀ {os:List (Nat×Nat)} {h:List AObj},os.all (fun p=> !([s].contains p.1))=true→(freezeAll h os)[s]? =h[s]?
 | [],_,_=>rfl
 | o::os,h,ho=>by
   simp only[List.all_cons,y4,d9] at ho
   simp only[freezeAll]
   rw[q5z (by simpa using ho.2)]
   have hne:o.1≠s:=by
    have:=ho.1
    simp at this
    exact this
   split
   ·rw[List.getElem?_set_ne hne]
   ·rfl
theorem x4i {T:List Nat} {rs:List ARes} {R:AV→List AObj→Prop} {e:AEx} {s:St} (h:j9v T rs R e s):(∀ i,e≠ .exit i)∧∃ vs v,z1s s.h s.ts rs=some vs∧conv s.h (z1k vs)=some v∧v.ids=[]∧j3c T (z1k vs).obs=true∧R v s.h:=by
 obtain⟨h1,h2⟩:=h
 refine⟨h1, ?_⟩
 unfold RV at h2
 split at h2
 ·rename_i vs hv
  obtain⟨v,h3,h4,h5,h6⟩:=h2
  exact⟨vs,v,hv,h3,h4,h5,h6⟩
 ·exact h2.elim
theorem k5q {T:List Nat} {rs:List ARes} {R:AV→List AObj→Prop} {ts:Tmps} {h:List AObj} {c:Nat}:j9v T rs R .ret ⟨ts,h,c⟩=RV T (z1s h ts rs) R h:=by
 simp[j9v]
theorem j9w {T:List Nat} {rs:List ARes} {R:AV→List AObj→Prop} {ts:Tmps} {h:List AObj} {c:Nat}:j9v T rs R .norm ⟨ts,h,c⟩=RV T (z1s h ts rs) R h:=by
 simp[j9v]
theorem x4j {f:Nat} {args az:List AV} {h:List AObj} {clk:Nat} {af:AFun} {Q:AV→List AObj→Nat→Prop} (hext:Γ.ext f=none) (hfn:Γ.fn f=some af) (hb:af.byref=[]) (ho:af.owned=false) (hobs:z4u args=[]) (has:cvL args=az) (hids:z0i az=[])
  (hw:∀ (D:List AObj) (B:Nat) (R:AV→List AObj→Prop),D.length=B→(∀ v h',Q v h clk→R v h')→K Γ B af.body [] ⟨q0f az,D++x3 af.nslots .dead,clk⟩ (j9v [] af.results fun v h'=>R v h')):WC Γ f args h clk Q:=by
 obtain⟨k,e,s,he,hend⟩:=hw (maskFrom [] 0 h) _ (fun v _=>Q v h clk) rfl (fun _ _ h=>h)
 obtain⟨hne,vs,v,hr,hc,hv,_,hQ⟩:=x4i hend
 rw[z4h] at he
 refine⟨k,v,h,clk, ?_,hQ⟩
 have hp:z1q h af.byref 0 args=some az:=by rw[hb,z2g hobs,has]
 have hl:z0p af.byref 0 args=[]:=by rw[hb];exact z6o hobs
 unfold z5w z0k
 simp only[hext,hfn,hp,hl,freezeAll,hids,reach,he,ho,j9,if_false,hr,hc,z9w]
 cases e with
 | exit i=>exact absurd rfl (hne i)
 | norm=>simp[hv]
 | ret=>simp[hv]
theorem q4x {f:Nat} {args az:List AV} {h:List AObj} {af:AFun} (hfn:Γ.fn f=some af) (hb:af.byref=[]) (hobs:z4u args=[]) (has:cvL args=az) (hids:z0i az=[]):z0z Γ f args h=[]:=by
 unfold z0z
 rw[hobs]
 cases Γ.ext f with
 | some _=>rfl
 | none=>
   have hp:z1q h af.byref 0 args=some az:=by rw[hb,z2g hobs,has]
   simp only[hfn,hp,hids,reach]
   rfl
theorem Pure.of {f:Nat} {args az:List AV} {v:AV} {af:AFun} (hext:Γ.ext f=none) (hfn:Γ.fn f=some af) (hb:af.byref=[]) (ho:af.owned=false) (hobs:z4u args=[]) (has:cvL args=az) (hids:z0i az=[])
  (hw:∀ (D:List AObj) (B clk:Nat) (R:AV→List AObj→Prop),D.length=B→(∀ h',R v h')→K Γ B af.body [] ⟨q0f az,D++x3 af.nslots .dead,clk⟩ (j9v [] af.results R)):Pure Γ f args v:=fun h clk=>by
 refine⟨?_,q4x hfn hb hobs has hids⟩
 obtain⟨k,v',h',c,he,rfl,rfl,rfl⟩:=x4j (Q:=fun v' h' c'=>v'=v∧h'=h∧c'=clk) hext hfn hb ho hobs has hids (fun D B R hB hR=>hw D B clk R hB (fun h'=>hR v h' ⟨rfl,rfl,rfl⟩))
 exact⟨k,he⟩
theorem j3d {T:List Nat}:∀ {h:List AObj} {k i:Nat},T.contains (k + i)=true→(maskFrom T k h)[i]? =h[i]?
 | [],_,_,_=>rfl
 | o::h,k,0,hc=>by
   rw[b4] at hc
   simp only[maskFrom,hc,if_true,List.getElem?_cons_zero]
 | o::h,k,i + 1,hc=>by
   simp only[maskFrom,l9]
   exact j3d (by rw[d3,Nat.add_comm 1 i];exact hc)
theorem w2v {f s:Nat} {args az:List AV} {h:List AObj} {clk:Nat} {af:AFun} {obj:AObj} {Q:AV→List AObj→Nat→Prop} (hext:Γ.ext f=none) (hfn:Γ.fn f=some af) (hb:af.byref=[]) (ho:af.owned=false) (hobs:z4u args=[]) (has:cvL args=az) (hids:z0i az=[s]) (hs:h[s]? =some obj) (hoi:obj.ids=[])
  (hw:∀ (D:List AObj) (B:Nat) (R:AV→List AObj→Prop),D.length=B→D[s]? =some obj→s < B→(∀ v h' o',h'[s]? =some o'→o'.ids=[]→Q v (h.set s o') clk→R v h')→K Γ B af.body [] ⟨q0f az,D++x3 af.nslots .dead,clk⟩ (j9v [s] af.results R)):WC Γ f args h clk Q:=by
 have hlt:s < h.length:=by
  rw[List.getElem?_eq_some_iff] at hs
  exact hs.1
 have hp:z1q h af.byref 0 args=some az:=by rw[hb,z2g hobs,has]
 have hl:z0p af.byref 0 args=[]:=by rw[hb];exact z6o hobs
 obtain⟨k,e,s1,he,hend⟩:=hw (maskFrom [s] 0 h) _ (fun v h'=>∃ o',h'[s]? =some o'∧o'.ids=[]∧Q v (h.set s o') clk) rfl (by rw[j3d (by simp)];exact hs) (by rw[z4h];exact hlt) (fun v h' o' h1 h2 h3=>⟨o',h1,h2,h3⟩)
 obtain⟨hne,vs,v,hr,hc,hv,hno,o',h1,h2,hQ⟩:=x4i hend
 rw[z4h] at he
 refine⟨k,v,h.set s o',clk, ?_,hQ⟩
 have hreach:reach h (h.length + 1) [] [s]=[s]:=by
  simp only[reach,List.contains_nil,j9,if_false,hs,j5,hoi,d4,y8]
  cases h.length <;> rfl
 have hfr:(freezeAll s1.h (z1k vs).obs)[s]? =some o':=by
  rw[q5z (by simpa [j3c] using hno),h1]
 have hm:z0n [s] 0 h (freezeAll s1.h (z1k vs).obs)=h.set s o':=by
  have:=x7x (s:=s) (h:=h) (h':=freezeAll s1.h (z1k vs).obs) (k:=0) hlt hfr
  rw[k6] at this
  exact this
 unfold z5w z0k
 simp only[hext,hfn,hp,hl,freezeAll,hids,hreach,he,ho,j9,if_false,hr,hc,List.isEmpty_cons,Bool.and_false,hm]
 have hall:((v.ids++(List.map (fun i=>(Option.map AObj.ids (freezeAll s1.h (z1k vs).obs)[i]?).getD []) [s]).flatten).all fun x=>decide (x < h.length))=true:=by
  simp[hv,hfr,h2]
 cases e with
 | exit i=>exact absurd rfl (hne i)
 | norm=>simp only[hall,if_true]
 | ret=>simp only[hall,if_true]
section
variable {h:List AObj} {base g:Nat} {ts:Tmps}
def j9x (h:List AObj):AV→AV→AV→Option (AV×List AObj)
 | .bool t,a,b=>some (if t then a else b,h)
 | _,_,_=>none
def v5n (h:List AObj) (slot g:Nat) (v:AV):Option (AV×List AObj):=
 if v.cells.isEmpty || !v.def? then none else some (.ptr slot g 0 0,h.set slot (.blk g [v] false false 0))
def q1n (h:List AObj) (sz:Option Nat):AV→Option (AV×List AObj)
 | .ptr s g i o=>match z2f h s g with
   | some (es,_,_,_)=>(es[i]?).bind fun e=>(z1w e.cells o sz).map (·,h)
   | none=>none
 | .iptr cs o=>(z1w cs o sz).map (·,h)
 | _=>none
def z8n (h:List AObj) (sz:Nat) (v:AV):AV→Option (AV×List AObj)
 | .ptr s g i o=>match z2f h s g with
   | some (es,row,grow,fz)=>
     match es[i]?,(if row then pub h v else some (v,h)) with
     | some e,some (v',h')=>
       if v'.def? =true∧v'.cells.length=sz∧v'.cells.all AV.one=true∧(row=true→fz≤i∧ !(v.obs.map (·.1)).contains s) then
        (z7m e.cells o v'.cells).map fun cs=>(.undef,h'.set s (.blk g (es.set i (z7l e cs)) row grow fz))
       else none
     | _,_=>none
   | none=>none
 | _=>none
def j9y (h:List AObj) (o:Nat):AV→Option (AV×List AObj)
 | .ptr s g i p=>some (.ptr s g i (p + o),h)
 | .iptr cs p=>some (.iptr cs (p + o),h)
 | _=>none
def k5r (h:List AObj):AV→Option (AV×List AObj)
 | .ptr s g i o=>some (.ptr s g i o,h)
 | .iptr cs o=>some (.iptr cs o,h)
 | _=>none
def y4h (h:List AObj) (i:Nat):AV→Option (AV×List AObj)
 | .tup cs=>(cs[i]?).map (·,h)
 | _=>none
def z8b (h:List AObj) (op:BinOp) (t:ETy) (x y:AV):Option (AV×List AObj):=(z4v op t x y).map (·,h)
def v1e (h:List AObj) (t:LenTy) (x:AV):Option (AV×List AObj):=(z9p h t x).map (·,h)
def unV (h:List AObj) (op:UnOp) (x:AV):Option (AV×List AObj):=(k4n op x).map (·,h)
def v5o (h:List AObj) (k:IntKind):AV→Option (AV×List AObj)
 | .int _ n=>some (.int k (k.wrap n),h)
 | _=>none
def z1v (h:List AObj) (esz:Nat):AV→AV→Option (AV×List AObj)
 | .sl xs _, .int _ i=>if 0≤i then match xs[i.toNat]? with
   | some e=>if e.cells.length=esz then some (.iptr e.cells 0,h) else none
   | none=>none
   else none
 | .ob s g off len, .int _ i=>if 0≤i then match z2f h s g with
   | some (es,true,_,_)=>match es[off + i.toNat]? with
     | some e=>if i.toNat < len∧e.cells.length=esz then some (.ptr s g (off + i.toNat) 0,h) else none
     | none=>none
   | _=>none
   else none
 | _,_=>none
def q3t (h:List AObj):AV→AV→Option (AV×List AObj)
 | .str s, .int _ i=>if 0≤i then (s[i.toNat]?).map fun (b:Nat)=>(.int .u8 (Int.ofNat b),h) else none
 | _,_=>none
theorem v1f {c a b:AOpd}:prim h base g ts (.pick c a b)=j9x h (c.ev ts) (a.ev ts) (b.ev ts):=by
 simp only[prim]
 cases c.ev ts <;> simp only[j9x]
 rename_i t
 cases t <;> rfl
theorem v5p {k:Nat} {z:AV}:prim h base g ts (.alloc k z)=v5n h (base + k) g z:=(rfl)
theorem y4u {k:Nat} {x:AOpd}:prim h base g ts (.box k x)=v5n h (base + k) g (x.ev ts):=(rfl)
theorem v5q {z:List AV} {ps:List (Nat×Nat×AOpd)}:prim h base g ts (.build z ps)=(z5o z (ps.map fun p=>(p.1,p.2.1,p.2.2.ev ts))).map fun cs=>(.agg cs,h):=(rfl)
theorem w2w {sz:Option Nat} {a:AOpd}:prim h base g ts (.load sz a)=q1n h sz (a.ev ts):=by
 simp only[prim];cases a.ev ts <;> rfl
theorem v5r {sz:Nat} {a x:AOpd}:prim h base g ts (.store sz a x)=z8n h sz (x.ev ts) (a.ev ts):=by
 simp only[prim];cases a.ev ts <;> rfl
theorem j6s {x:AOpd}:prim h base g ts (.nilCheck x)=k5r h (x.ev ts):=by
 simp only[prim];cases x.ev ts <;> rfl
theorem v5s {op:BinOp} {t:ETy} {x y:AOpd}:prim h base g ts (.binOp op t x y)=z8b h op t (x.ev ts) (y.ev ts):=(rfl)
theorem w2x {op:UnOp} {x:AOpd}:prim h base g ts (.unOp op x)=unV h op (x.ev ts):=(rfl)
theorem w2y {k:IntKind} {x:AOpd}:prim h base g ts (.cInt k x)=v5o h k (x.ev ts):=by
 simp only[prim];cases x.ev ts <;> rfl
theorem j0l {x:AOpd} {o:Nat}:prim h base g ts (.fieldAddr x o)=j9y h o (x.ev ts):=by
 simp only[prim];cases x.ev ts <;> rfl
theorem q9j {esz:Nat} {x ix:AOpd}:prim h base g ts (.indexAddr none esz x ix)=z1v h esz (x.ev ts) (ix.ev ts):=by
 simp only[prim];cases ix.ev ts <;> cases x.ev ts <;> simp only[z1v] <;> split <;> rfl
theorem k5s {x ix:AOpd}:prim h base g ts (.index none x ix)=q3t h (x.ev ts) (ix.ev ts):=by
 simp only[prim];cases ix.ev ts <;> cases x.ev ts <;> simp only[q3t] <;> split <;> rfl
theorem j6t {f:Nat} {cap:List AOpd}:prim h base g ts (.makeFunc f cap)=some (.fn f (cap.map (·.ev ts)),h):=(rfl)
theorem j9z {x:AOpd} {i:Nat}:prim h base g ts (.extract x i)=y4h h i (x.ev ts):=by
 simp only[prim];cases x.ev ts <;> rfl
theorem y4v {t:LenTy} {x:AOpd}:prim h base g ts (.len t x)=v1e h t (x.ev ts):=(rfl)
theorem k5t {k esz b:Nat} {mu:Bool} {x y:AOpd}:prim h base g ts (.append k esz b mu x y)=z1a h (base + k) g esz b mu (x.ev ts) (y.ev ts):=(rfl)
theorem k0a {k:Nat}:prim h base g ts (.makeMap k)=some (.mp (base + k) g,h.set (base + k) (.map g [])):=(rfl)
def PP (Γ:AProg) (base:Nat) (x:Option (AV×List AObj)) (dst:Option Nat) (g:Nat) (os:List AOper) (ts:Tmps) (clk:Nat) (ks:List Kf) (Q:Post):Prop:=
 match x with
 | some (v,h')=>O Γ base .plain (g + 1) os ⟨z8g ts dst v,h',clk⟩ ks Q
 | none=>False
section
variable {clk:Nat} {ks:List Kf} {Q:Post} {os:List AOper} {dst:Option Nat} {m:Md}
theorem k0b {v:AV} {d:Nat}:PP Γ base (some (v,h)) (some d) g os ts clk ks Q=O Γ base .plain (g + 1) os ⟨upd ts d v,h,clk⟩ ks Q:=(rfl)
theorem v5t {v:AV}:PP Γ base (some (v,h)) none g os ts clk ks Q=O Γ base .plain (g + 1) os ⟨ts,h,clk⟩ ks Q:=(rfl)
theorem q3u {op:AOp} (hop:op.isCall=false):O Γ base .plain g (⟨dst,op,none⟩::os) ⟨ts,h,clk⟩ ks Q=PP Γ base (prim h base g ts op) dst g os ts clk ks Q:=z6n hop
theorem v1g {x:AOpd} {d:Nat}:O Γ base .plain g (⟨some d, .move x,none⟩::os) ⟨ts,h,clk⟩ ks Q=O Γ base .plain (g + 1) os ⟨upd ts d (x.ev ts),h,clk⟩ ks Q:=z6n rfl
theorem w2z {c a b:AOpd}:O Γ base .plain g (⟨dst,(.pick c a b),none⟩::os) ⟨ts,h,clk⟩ ks Q=PP Γ base (j9x h (c.ev ts) (a.ev ts) (b.ev ts)) dst g os ts clk ks Q:=by rw[q3u rfl,v1f]
theorem v5u {k:Nat} {z:AV}:O Γ base .plain g (⟨dst,(.alloc k z),none⟩::os) ⟨ts,h,clk⟩ ks Q=PP Γ base (v5n h (base + k) g z) dst g os ts clk ks Q:=by rw[q3u rfl,v5p]
theorem y4w {k:Nat} {x:AOpd}:O Γ base .plain g (⟨dst,(.box k x),none⟩::os) ⟨ts,h,clk⟩ ks Q=PP Γ base (v5n h (base + k) g (x.ev ts)) dst g os ts clk ks Q:=by rw[q3u rfl,y4u]
theorem v5v {z:List AV} {ps:List (Nat×Nat×AOpd)}:O Γ base .plain g (⟨dst,(.build z ps),none⟩::os) ⟨ts,h,clk⟩ ks Q=PP Γ base ((z5o z (ps.map fun p=>(p.1,p.2.1,p.2.2.ev ts))).map fun cs=>(.agg cs,h)) dst g os ts clk ks Q:=by rw[q3u rfl,v5q]
theorem w3a {sz:Option Nat} {a:AOpd}:O Γ base .plain g (⟨dst,(.load sz a),none⟩::os) ⟨ts,h,clk⟩ ks Q=PP Γ base (q1n h sz (a.ev ts)) dst g os ts clk ks Q:=by rw[q3u rfl,w2w]
theorem v5w {sz:Nat} {a x:AOpd}:O Γ base .plain g (⟨dst,(.store sz a x),none⟩::os) ⟨ts,h,clk⟩ ks Q=PP Γ base (z8n h sz (x.ev ts) (a.ev ts)) dst g os ts clk ks Q:=by rw[q3u rfl,v5r]
theorem j6u {x:AOpd}:O Γ base .plain g (⟨dst,(.nilCheck x),none⟩::os) ⟨ts,h,clk⟩ ks Q=PP Γ base (k5r h (x.ev ts)) dst g os ts clk ks Q:=by rw[q3u rfl,j6s]
theorem k0c {op:BinOp} {t:ETy} {x y:AOpd}:O Γ base .plain g (⟨dst,(.binOp op t x y),none⟩::os) ⟨ts,h,clk⟩ ks Q=PP Γ base (z8b h op t (x.ev ts) (y.ev ts)) dst g os ts clk ks Q:=by rw[q3u rfl,v5s]
theorem w3b {op:UnOp} {x:AOpd}:O Γ base .plain g (⟨dst,(.unOp op x),none⟩::os) ⟨ts,h,clk⟩ ks Q=PP Γ base (unV h op (x.ev ts)) dst g os ts clk ks Q:=by rw[q3u rfl,w2x]
theorem w3c {k:IntKind} {x:AOpd}:O Γ base .plain g (⟨dst,(.cInt k x),none⟩::os) ⟨ts,h,clk⟩ ks Q=PP Γ base (v5o h k (x.ev ts)) dst g os ts clk ks Q:=by rw[q3u rfl,w2y]
theorem j0m {x:AOpd} {o:Nat}:O Γ base .plain g (⟨dst,(.fieldAddr x o),none⟩::os) ⟨ts,h,clk⟩ ks Q=PP Γ base (j9y h o (x.ev ts)) dst g os ts clk ks Q:=by rw[q3u rfl,j0l]
theorem j0n {esz:Nat} {x ix:AOpd}:O Γ base .plain g (⟨dst,(.indexAddr none esz x ix),none⟩::os) ⟨ts,h,clk⟩ ks Q=PP Γ base (z1v h esz (x.ev ts) (ix.ev ts)) dst g os ts clk ks Q:=by rw[q3u rfl,q9j]
theorem k5u {x ix:AOpd}:O Γ base .plain g (⟨dst,(.index none x ix),none⟩::os) ⟨ts,h,clk⟩ ks Q=PP Γ base (q3t h (x.ev ts) (ix.ev ts)) dst g os ts clk ks Q:=by rw[q3u rfl,k5s]
theorem j6v {f:Nat} {cap:List AOpd}:O Γ base .plain g (⟨dst,(.makeFunc f cap),none⟩::os) ⟨ts,h,clk⟩ ks Q=PP Γ base (some (.fn f (cap.map (·.ev ts)),h)) dst g os ts clk ks Q:=by rw[q3u rfl,j6t]
theorem k0d {x:AOpd} {i:Nat}:O Γ base .plain g (⟨dst,(.extract x i),none⟩::os) ⟨ts,h,clk⟩ ks Q=PP Γ base (y4h h i (x.ev ts)) dst g os ts clk ks Q:=by rw[q3u rfl,j9z]
theorem y4x {t:LenTy} {x:AOpd}:O Γ base .plain g (⟨dst,(.len t x),none⟩::os) ⟨ts,h,clk⟩ ks Q=PP Γ base (v1e h t (x.ev ts)) dst g os ts clk ks Q:=by rw[q3u rfl,y4v]
theorem k5v {k esz b:Nat} {mu:Bool} {x y:AOpd}:O Γ base .plain g (⟨dst,(.append k esz b mu x y),none⟩::os) ⟨ts,h,clk⟩ ks Q=PP Γ base (z1a h (base + k) g esz b mu (x.ev ts) (y.ev ts)) dst g os ts clk ks Q:=by rw[q3u rfl,k5t]
theorem k0e {k:Nat}:O Γ base .plain g (⟨dst,(.makeMap k),none⟩::os) ⟨ts,h,clk⟩ ks Q=PP Γ base (some (.mp (base + k) g,h.set (base + k) (.map g []))) dst g os ts clk ks Q:=by rw[q3u rfl,k0a]
end
theorem j6w {t:Bool} {a b:AV}:j9x h (.bool t) a b=some (if t then a else b,h):=(rfl)
theorem j6x {sz:Option Nat} {cs:List AV} {o:Nat}:q1n h sz (.iptr cs o)=(z1w cs o sz).map (·,h):=(rfl)
theorem k0f {sz:Option Nat} {s q i o:Nat}:q1n h sz (.ptr s q i o)=match z2f h s q with
 | some (es,_,_,_)=>(es[i]?).bind fun e=>(z1w e.cells o sz).map (·,h)
 | none=>none:=rfl
theorem k0g {s q i o:Nat}:k5r h (.ptr s q i o)=some (.ptr s q i o,h):=(rfl)
theorem k0h {s q i p o:Nat}:j9y h o (.ptr s q i p)=some (.ptr s q i (p + o),h):=(rfl)
theorem j6y {cs:List AV} {p o:Nat}:j9y h o (.iptr cs p)=some (.iptr cs (p + o),h):=(rfl)
theorem k5w {i:Nat} {cs:List AV}:y4h h i (.tup cs)=(cs[i]?).map (·,h):=(rfl)
theorem k0i {k j:IntKind} {n:Int}:v5o h k (.int j n)=some (.int k (k.wrap n),h):=(rfl)
theorem v5x {xs:List AV} {t:Tip}:v1e h .sl (.sl xs t)=some (.int .i64 xs.length,h):=(rfl)
theorem k5x {s:List Nat}:v1e h .str (.str s)=some (.int .i64 s.length,h):=(rfl)
theorem v5y {s q o l:Nat}:v1e h .sl (.ob s q o l)=some (.int .i64 l,h):=(rfl)
theorem v5z {b:Bool}:unV h .not (.bool b)=some (.bool (!b),h):=(rfl)
theorem v6a {k:IntKind} {n:Int}:unV h .neg (.int k n)=some (.int k (k.wrap (0 - n)),h):=(rfl)
section
variable {t:ETy} {k:IntKind} {a b:Int}
theorem v1h:z8b h .add t (.int k a) (.int k b)=some (.int k (k.wrap (a + b)),h):=by simp[z8b,z4v,z7n]
theorem w3d:z8b h .sub t (.int k a) (.int k b)=some (.int k (k.wrap (a - b)),h):=by simp[z8b,z4v,z7n]
theorem w3e:z8b h .mul t (.int k a) (.int k b)=some (.int k (k.wrap (a * b)),h):=by simp[z8b,z4v,z7n]
theorem q4y (hb:b≠0):z8b h .quo t (.int k a) (.int k b)=some (.int k (k.wrap (a.tdiv b)),h):=by simp[z8b,z4v,z7n,hb]
theorem q1d (hb:b≠0):z8b h .rem t (.int k a) (.int k b)=some (.int k (a.tmod b),h):=by simp[z8b,z4v,z7n,hb]
theorem w3f:z8b h .eql t (.int k a) (.int k b)=some (.bool (decide (a=b)),h):=by simp[z8b,z4v,z7n]
theorem w3g:z8b h .neq t (.int k a) (.int k b)=some (.bool (!decide (a=b)),h):=by simp[z8b,z4v,z7n]
theorem w3h:z8b h .lss t (.int k a) (.int k b)=some (.bool (decide (a < b)),h):=by simp[z8b,z4v,z7n]
theorem w3i:z8b h .leq t (.int k a) (.int k b)=some (.bool (decide (a≤b)),h):=by simp[z8b,z4v,z7n]
theorem w3j:z8b h .gtr t (.int k a) (.int k b)=some (.bool (decide (b < a)),h):=by simp[z8b,z4v,z7n]
theorem w3k:z8b h .geq t (.int k a) (.int k b)=some (.bool (decide (b≤a)),h):=by simp[z8b,z4v,z7n]
end
section
variable {t:ETy} {a b:List Nat}
theorem w3l:z8b h .eql t (.str a) (.str b)=some (.bool (decide (a=b)),h):=by simp[z8b,z4v,q8c]
theorem w3m:z8b h .neq t (.str a) (.str b)=some (.bool (!decide (a=b)),h):=by simp[z8b,z4v,q8c]
theorem w3n:z8b h .lss t (.str a) (.str b)=some (.bool (z5l a b),h):=by simp[z8b,z4v,q8c]
theorem q9k (hl:a.length + b.length < 2 ^ 60):z8b h .add t (.str a) (.str b)=some (.str (a++b),h):=by
 simp only[z8b,z4v,q8c,if_pos hl,j5]
end
theorem w3o {a b:Bool}:z8b h .eql (.one .bool) (.bool a) (.bool b)=some (.bool (a==b),h):=by simp[z8b,z4v,AV.eqv,AV.eq1]
theorem w3p {a b:Bool}:z8b h .neq (.one .bool) (.bool a) (.bool b)=some (.bool (!(a==b)),h):=by simp[z8b,z4v,AV.eqv,AV.eq1]
theorem z4i {xs:List AV} {t:Tip} {esz i:Nat} {k:IntKind} {e:AV} (hx:xs[i]? =some e) (he:e.cells.length=esz):z1v h esz (.sl xs t) (.int k (i:Int))=some (.iptr e.cells 0,h):=by
 simp only[z1v,Int.natCast_nonneg,if_true,m7,hx,he]
theorem x7y {s:List Nat} {i b:Nat} {k:IntKind} (hx:s[i]? =some b):q3t h (.str s) (.int k (i:Int))=some (.int .u8 (b:Int),h):=by
 simp only[q3t,Int.natCast_nonneg,if_true,m7,hx,j5]
 rfl
end
end
theorem z0b {ts:Tmps} {d j:Nat} {v:AV}:upd ts d v j=bif j==d then v else ts j:=by
 unfold upd
 by_cases h:j=d
 ·subst h;simp
 ·have:(j==d)=false:=by simpa using h
  rw[if_neg h,this];rfl
theorem v1i {ts:Tmps} {t:Nat}:(AOpd.tmp t).ev ts=ts t:=(rfl)
theorem j3e {ts:Tmps} {v:AV}:(AOpd.const v).ev ts=v:=(rfl)
theorem z3p {a:AV} {az:List AV}:q0f (a::az) 0=a:=(rfl)
theorem z8c {a:AV} {az:List AV} {n:Nat}:q0f (a::az) (n + 1)=q0f az n:=(rfl)
theorem v6b {h:List AObj} {ts:Tmps}:z1s h ts []=some []:=(rfl)
def w3q (v:AV):Option (List AV)→Option (List AV)
 | some vs=>some (v::vs)
 | none=>none
theorem j6z {v:AV} {vs:List AV}:w3q v (some vs)=some (v::vs):=(rfl)
theorem v6c {h:List AObj} {ts:Tmps} {t:Nat} {rs:List ARes}:z1s h ts (.tmp t::rs)=w3q (ts t) (z1s h ts rs):=by
 simp only[z1s];cases z1s h ts rs <;> rfl
theorem k5y {b:Bool}:(b==true)=b:=by cases b <;> rfl
theorem k0j {b:Bool}:(b==false)= !b:=by cases b <;> rfl
theorem z0c {n:Int} (h1: -9223372036854775808≤n) (h2:n≤9223372036854775807):IntKind.i64.wrap n=n:=IntWalk.i64_in _ ⟨h1,h2⟩
theorem x7z {a d:AV} {l:List AV}:(a::l).getD 0 d=a:=(rfl)
theorem q9l {k:IntKind} {n:Int}:(AV.int k n).cells=[(AV.int k n)]:=(rfl)
theorem k0k {k:IntKind} {n:Int}:(AV.int k n).def? =true:=(rfl)
theorem k0l {k:IntKind} {n:Int}:(AV.int k n).one=true:=(rfl)
theorem x2s {k:IntKind} {n:Int} {cs:List AV}:z7l (AV.int k n) cs=cs.getD 0 .undef:=(rfl)
theorem j7a {b:Bool}:(AV.bool b).cells=[(AV.bool b)]:=(rfl)
theorem k5z {b:Bool}:(AV.bool b).def? =true:=(rfl)
theorem k6a {b:Bool}:(AV.bool b).one=true:=(rfl)
theorem k0m {s:List Nat}:(AV.str s).cells=[(AV.str s)]:=(rfl)
theorem v6d {s:List Nat}:(AV.str s).def? =true:=(rfl)
theorem v6e {s:List Nat}:(AV.str s).one=true:=(rfl)
theorem z2w {xs:List AV} {t:Tip}:(AV.sl xs t).cells=[(AV.sl xs t)]:=(rfl)
theorem w3r {xs:List AV} {t:Tip}:(AV.sl xs t).def? =true:=(rfl)
theorem w3s {xs:List AV} {t:Tip}:(AV.sl xs t).one=true:=(rfl)
theorem k0n {xs:List AV} {t:Tip} {cs:List AV}:z7l (AV.sl xs t) cs=cs.getD 0 .undef:=(rfl)
theorem k6b {a b c d:Nat}:(AV.ob a b c d).cells=[(AV.ob a b c d)]:=(rfl)
theorem w3t {a b c d:Nat}:(AV.ob a b c d).def? =true:=(rfl)
theorem k0o {a b c d:Nat}:(AV.ptr a b c d).cells=[(AV.ptr a b c d)]:=(rfl)
theorem v6f {a b c d:Nat}:(AV.ptr a b c d).def? =true:=(rfl)
theorem v6g {a b c d:Nat}:(AV.ptr a b c d).one=true:=(rfl)
theorem x8a:(AV.nilptr).cells=[(AV.nilptr)]:=(rfl)
theorem j7b:(AV.nilptr).def? =true:=(rfl)
theorem x4k {cs:List AV}:z7l (AV.nilptr) cs=cs.getD 0 .undef:=(rfl)
theorem k6c {a b:Nat}:(AV.mp a b).cells=[(AV.mp a b)]:=(rfl)
theorem w3u {a b:Nat}:(AV.mp a b).def? =true:=(rfl)
theorem w3v {a b:Nat}:(AV.mp a b).one=true:=(rfl)
theorem x8b:(AV.nilmap).cells=[(AV.nilmap)]:=(rfl)
theorem j7c:(AV.nilmap).def? =true:=(rfl)
theorem x4l {cs:List AV}:z7l (AV.nilmap) cs=cs.getD 0 .undef:=(rfl)
theorem k0p {cs:List AV}:(AV.agg cs).cells=cs:=(rfl)
theorem v6h {cs:List AV}:(AV.agg cs).def? =true:=(rfl)
theorem j7d {xs cs:List AV}:z7l (.agg xs) cs= .agg cs:=(rfl)
attribute [go_sem] q9l k0k k0l x2s j7a k5z k6a k0m v6d v6e z2w w3r w3s k0n k6b w3t k0o v6f v6g x8a j7b x4k k6c w3u w3v x8b j7c x4l k0p v6h j7d
theorem x8c {f:List Nat×List Nat}:Md.plain.add f= .plain:=(rfl)
theorem k6d {N:Nat} {ops:List AOper} {ps:List (Nat×Nat)} {fs:List (List Nat×List Nat)} {f:List Nat×List Nat}:(Md.draw N ops ps fs).add f= .draw N ops ps (fs++[f]):=(rfl)
attribute [go_sem] x8c k6d v5g v5h q5y x7u j6q x7v j9t j0j x2p x2q x7w v5i k5m w2s k5n q9i v5l v5j w2t v5k k5o w2u v5m y4t k0b v5t v1g w2z v5u y4w v5v w3a v5w j6u k0c w3b w3c j0m j0n k5u j6v k0d y4x k5v k0e z0b cond_true cond_false v1i j3e z3p z8c v6b j6z v6c k5y k0j k5q j9w List.map_cons List.map_nil j5 Option.map_none Option.bind_some Option.bind_none if_true if_false j6w j6x k0f k0g k0h j6y k5w k0i v5x k5x v5y v5z v6a v1h w3d w3e w3f w3g w3h w3i w3j w3k w3l w3m w3n w3o w3p z8g
attribute [go_sem_proc] z0 z1 z2 z3 reduceCtorEq
attribute [go_sem_proc ↓] reduceIte
end
end Go.Proofs.YtkollgjffkdliaaGreatDoor.Am
