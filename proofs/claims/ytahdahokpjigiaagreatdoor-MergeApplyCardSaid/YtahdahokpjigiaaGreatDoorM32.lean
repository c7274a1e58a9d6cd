/- Walking: slices Walking: nodes are permitted, and have their sorts Walking: nodes are permitted, and have their sorts Walking: a term is looked at from its last node on: what holds between the nodes W -/
import Derived.Test.YtahdahokpjigiaaGreatDoorM31
open Nat renaming reduceBEq → z0,reduceAdd → z1,reduceLeDiff → z2,reduceSub → z3
set_option linter.all false
namespace Go.Proofs.YtahdahokpjigiaaGreatDoor.Am
open Go
set_option maxRecDepth 100000
theorem k6y {α:Type} {enc:α→AV} {xs:List α} {S:List (Nat×AObj)} {c:Nat} {cap:List AV} {P:α→Bool} {t:Tip} (hE:∀ x,(enc x).cells.length=1) (hld:∀ x h,q1u h none (.iptr (enc x).cells 0)=some (enc x,h)) (hid:∀ x,(enc x).ids=[]) (hl:xs.length≤2 ^ 20) (hC:Cov S (idsL cap)) (hP:∀ x∈xs,Reads S c (enc x::cap) (.bool (P x))):
  ∃ r:Int,decide (0≤r)=xs.any P∧Reads S 319 [.sl (xs.map enc) t, .fn c cap] (.int .i64 r):=by
 have hC':Cov S (idsL [.sl (xs.map enc) .no, .fn c cap]):=by
  have:idsL [.sl (xs.map enc) .no, .fn c cap]=idsL cap:=by simp[idsL,AV.ids,z0c hid]
  rw[this];exact hC
 have key:∀ n,n≤xs.length→∃ r:Int,decide (0≤r)=(xs.drop (xs.length - n)).any P∧∀ (D L:List AObj) (B clk:Nat) (ks:List Kf) (ts:Tmps) (Q:Post),Has S D→ts 0= .sl (xs.map enc) .no→ts 1= .fn c cap→ts 7= .int .i64 (xs.length:Int)→ts 8= .int .i64 ((xs.length - n:Nat):Int)→
   (∀ ts' clk',ts' 4= .int .i64 r→K Gam B .ret ks ⟨ts',D++L,clk'⟩ Q)→(r= -1→∀ ts' clk',K Gam B (.exit 0) ks ⟨ts',D++L,clk'⟩ Q)→K Gam B (.loop x2t) ks ⟨ts,D++L,clk⟩ Q:=by
  intro n
  induction n with
  | zero=>
    intro _
    refine⟨-1,by simp,fun D L B clk ks ts Q hS h0 h1 h7 h8 _ hx=> ?_⟩
    have e1:decide (((xs.length - 0:Nat):Int) < (xs.length:Int))=false:=by rw[decide_eq_false_iff_not];omega
    refine z3f ?_
    simp only[go_sem,h0,h1,h7,h8,x2t,e1]
    exact hx rfl _ _
  | succ n ih=>
    intro hn
    have hk:xs.length - (n + 1) < xs.length:=by omega
    have hdr:xs.drop (xs.length - (n + 1))=xs[xs.length - (n + 1)]::xs.drop (xs.length - n):=by
     rw[List.drop_eq_getElem_cons hk]
     congr 2
     omega
    have e1:decide (((xs.length - (n + 1):Nat):Int) < (xs.length:Int))=true:=by rw[decide_eq_true_iff];omega
    have hpx:=hP _ (List.getElem_mem hk)
    generalize hxx:xs[xs.length - (n + 1)]=x at hdr hpx
    have hidx:∀ h,z1m h 1 (.sl (xs.map enc) .no) (.int .i64 ((xs.length - (n + 1):Nat):Int))=some (.iptr (enc x).cells 0,h):=fun h=>by
     rw[←hxx]
     exact z5q (by simp[hk]) (hE _)
    have hcx:∀ h,q1u h none (.iptr (enc x).cells 0)=some (enc x,h):=hld x
    cases hpb:P x with
    | true=>
      refine⟨((xs.length - (n + 1):Nat):Int), ?_,fun D L B clk ks ts Q hS h0 h1 h7 h8 hr _=> ?_⟩
      ·rw[hdr,List.any_cons,hpb,Bool.true_or,decide_eq_true_iff];omega
      ·refine z3f ?_
       rw[hpb] at hpx
       simp only[go_sem,z0,z1,z2,z3,reduceCtorEq,↓reduceIte,h0,h1,h7,h8,x2t,e1,hidx,hcx,z0w hpx hS.app]
       exact hr _ _ (by simp[z0b])
    | false=>
      obtain⟨r,h1',h2'⟩:=ih (by omega)
      refine⟨r,by rw[h1',hdr,List.any_cons,hpb,Bool.false_or],fun D L B clk ks ts Q hS h0 h1 h7 h8 hr hx=> ?_⟩
      have e2:IntKind.i64.wrap (((xs.length - (n + 1):Nat):Int) + 1)=((xs.length - n:Nat):Int):=by rw[z0d (by omega) (by omega)];omega
      refine z3f ?_
      rw[hpb] at hpx
      simp only[go_sem,z0,z1,z2,z3,reduceCtorEq,↓reduceIte,h0,h1,h7,h8,x2t,e1,hidx,hcx,z0w hpx hS.app,e2]
      exact h2' D L B _ ks _ Q hS (by simp[z0b,h0]) (by simp[z0b,h1]) (by simp[z0b,h7]) (by simp[z0b]) hr hx
 obtain⟨r,h1,h2⟩:=key xs.length (Nat.le_refl _)
 rw[Nat.sub_self,List.drop_zero] at h1
 refine⟨r,h1,Reads.of rfl y7r rfl rfl rfl rfl (by simpa [cvL,AV.cv] using hC') fun D B clk T hB hS hlt hT=> ?_⟩
 simp only[go_sem,w8o,List.length_map]
 refine h2 D _ B _ _ _ _ hS (by simp[z0b,z2w]) (by simp[z0b,z7g,z2w]) (by simp[z0b]) (by simp[z0b]) (fun ts' clk' q4=> ?_) (fun hr0 ts' clk'=> ?_)
 ·simp only[go_sem,q4]
  rw[z2m]
  exact hT _ hS.app
 ·simp only[go_sem,]
  rw[z2m,←hr0]
  exact hT _ hS.app
theorem k6z {α:Type} {enc:α→AV} {xs:List α} {S:List (Nat×AObj)} {c:Nat} {cap:List AV} {P:α→Bool} {t:Tip} (hE:∀ x,(enc x).cells.length=1) (hld:∀ x h,q1u h none (.iptr (enc x).cells 0)=some (enc x,h)) (hid:∀ x,(enc x).ids=[]) (hl:xs.length≤2 ^ 20) (hC:Cov S (idsL cap)) (hP:∀ x∈xs,Reads S c (enc x::cap) (.bool (P x))):
  Reads S 259 [.sl (xs.map enc) t, .fn c cap] (.bool (xs.any P)):=by
 obtain⟨r,h1,h2⟩:=k6y (t:= .no) hE hld hid hl hC hP
 have hC':Cov S (idsL [.sl (xs.map enc) .no, .fn c cap]):=by
  have:idsL [.sl (xs.map enc) .no, .fn c cap]=idsL cap:=by simp[idsL,AV.ids,z0c hid]
  rw[this];exact hC
 refine Reads.of rfl y7q rfl rfl rfl rfl (by simpa [cvL,AV.cv] using hC') fun D B clk T hB hS hlt hT=> ?_
 simp only[go_sem,w8n,z0w h2 hS.app,h1]
 rw[z0e]
 exact hT _ hS.app
theorem k7a {α:Type} {enc:α→AV} {xs:List α} {S:List (Nat×AObj)} {c:Nat} {cap:List AV} {P:α→Bool} {t:Tip} (hE:∀ x,(enc x).cells.length=2) (hld:∀ x h,q1u h (some 2) (.iptr (enc x).cells 0)=some (enc x,h)) (hid:∀ x,(enc x).ids=[]) (hl:xs.length≤2 ^ 20) (hC:Cov S (idsL cap)) (hP:∀ x∈xs,Reads S c (enc x::cap) (.bool (P x))):
  ∃ r:Int,decide (0≤r)=xs.any P∧Reads S 176 [.sl (xs.map enc) t, .fn c cap] (.int .i64 r):=by
 have hC':Cov S (idsL [.sl (xs.map enc) .no, .fn c cap]):=by
  have:idsL [.sl (xs.map enc) .no, .fn c cap]=idsL cap:=by simp[idsL,AV.ids,z0c hid]
  rw[this];exact hC
 have key:∀ n,n≤xs.length→∃ r:Int,decide (0≤r)=(xs.drop (xs.length - n)).any P∧∀ (D L:List AObj) (B clk:Nat) (ks:List Kf) (ts:Tmps) (Q:Post),Has S D→ts 0= .sl (xs.map enc) .no→ts 1= .fn c cap→ts 7= .int .i64 (xs.length:Int)→ts 8= .int .i64 ((xs.length - n:Nat):Int)→
   (∀ ts' clk',ts' 4= .int .i64 r→K Gam B .ret ks ⟨ts',D++L,clk'⟩ Q)→(r= -1→∀ ts' clk',K Gam B (.exit 0) ks ⟨ts',D++L,clk'⟩ Q)→K Gam B (.loop x2x) ks ⟨ts,D++L,clk⟩ Q:=by
  intro n
  induction n with
  | zero=>
    intro _
    refine⟨-1,by simp,fun D L B clk ks ts Q hS h0 h1 h7 h8 _ hx=> ?_⟩
    have e1:decide (((xs.length - 0:Nat):Int) < (xs.length:Int))=false:=by rw[decide_eq_false_iff_not];omega
    refine z3f ?_
    simp only[go_sem,h0,h1,h7,h8,x2x,e1]
    exact hx rfl _ _
  | succ n ih=>
    intro hn
    have hk:xs.length - (n + 1) < xs.length:=by omega
    have hdr:xs.drop (xs.length - (n + 1))=xs[xs.length - (n + 1)]::xs.drop (xs.length - n):=by
     rw[List.drop_eq_getElem_cons hk]
     congr 2
     omega
    have e1:decide (((xs.length - (n + 1):Nat):Int) < (xs.length:Int))=true:=by rw[decide_eq_true_iff];omega
    have hpx:=hP _ (List.getElem_mem hk)
    generalize hxx:xs[xs.length - (n + 1)]=x at hdr hpx
    have hidx:∀ h,z1m h 2 (.sl (xs.map enc) .no) (.int .i64 ((xs.length - (n + 1):Nat):Int))=some (.iptr (enc x).cells 0,h):=fun h=>by
     rw[←hxx]
     exact z5q (by simp[hk]) (hE _)
    have hcx:∀ h,q1u h (some 2) (.iptr (enc x).cells 0)=some (enc x,h):=hld x
    cases hpb:P x with
    | true=>
      refine⟨((xs.length - (n + 1):Nat):Int), ?_,fun D L B clk ks ts Q hS h0 h1 h7 h8 hr _=> ?_⟩
      ·rw[hdr,List.any_cons,hpb,Bool.true_or,decide_eq_true_iff];omega
      ·refine z3f ?_
       rw[hpb] at hpx
       simp only[go_sem,z0,z1,z2,z3,reduceCtorEq,↓reduceIte,h0,h1,h7,h8,x2x,e1,hidx,hcx,z0w hpx hS.app]
       exact hr _ _ (by simp[z0b])
    | false=>
      obtain⟨r,h1',h2'⟩:=ih (by omega)
      refine⟨r,by rw[h1',hdr,List.any_cons,hpb,Bool.false_or],fun D L B clk ks ts Q hS h0 h1 h7 h8 hr hx=> ?_⟩
      have e2:IntKind.i64.wrap (((xs.length - (n + 1):Nat):Int) + 1)=((xs.length - n:Nat):Int):=by rw[z0d (by omega) (by omega)];omega
      refine z3f ?_
      rw[hpb] at hpx
      simp only[go_sem,z0,z1,z2,z3,reduceCtorEq,↓reduceIte,h0,h1,h7,h8,x2x,e1,hidx,hcx,z0w hpx hS.app,e2]
      exact h2' D L B _ ks _ Q hS (by simp[z0b,h0]) (by simp[z0b,h1]) (by simp[z0b,h7]) (by simp[z0b]) hr hx
 obtain⟨r,h1,h2⟩:=key xs.length (Nat.le_refl _)
 rw[Nat.sub_self,List.drop_zero] at h1
 refine⟨r,h1,Reads.of rfl y7v rfl rfl rfl rfl (by simpa [cvL,AV.cv] using hC') fun D B clk T hB hS hlt hT=> ?_⟩
 simp only[go_sem,w8v,List.length_map]
 refine h2 D _ B _ _ _ _ hS (by simp[z0b,z2w]) (by simp[z0b,z7g,z2w]) (by simp[z0b]) (by simp[z0b]) (fun ts' clk' q4=> ?_) (fun hr0 ts' clk'=> ?_)
 ·simp only[go_sem,q4]
  rw[z2m]
  exact hT _ hS.app
 ·simp only[go_sem,]
  rw[z2m,←hr0]
  exact hT _ hS.app
theorem j0p {α:Type} {enc:α→AV} {xs:List α} {S:List (Nat×AObj)} {c:Nat} {cap:List AV} {P:α→Bool} {t:Tip} (hE:∀ x,(enc x).cells.length=2) (hld:∀ x h,q1u h (some 2) (.iptr (enc x).cells 0)=some (enc x,h)) (hid:∀ x,(enc x).ids=[]) (hl:xs.length≤2 ^ 20) (hC:Cov S (idsL cap)) (hP:∀ x∈xs,Reads S c (enc x::cap) (.bool (P x))):
  Reads S 114 [.sl (xs.map enc) t, .fn c cap] (.bool (xs.any P)):=by
 obtain⟨r,h1,h2⟩:=k7a (t:= .no) hE hld hid hl hC hP
 have hC':Cov S (idsL [.sl (xs.map enc) .no, .fn c cap]):=by
  have:idsL [.sl (xs.map enc) .no, .fn c cap]=idsL cap:=by simp[idsL,AV.ids,z0c hid]
  rw[this];exact hC
 refine Reads.of rfl u5n rfl rfl rfl rfl (by simpa [cvL,AV.cv] using hC') fun D B clk T hB hS hlt hT=> ?_
 simp only[go_sem,u1w,z0w h2 hS.app,h1]
 rw[z0e]
 exact hT _ hS.app
theorem k7b {α:Type} {enc:α→AV} {xs:List α} {S:List (Nat×AObj)} {c:Nat} {cap:List AV} {P:α→Bool} {t:Tip} (hE:∀ x,(enc x).cells.length=3) (hld:∀ x h,q1u h (some 3) (.iptr (enc x).cells 0)=some (enc x,h)) (hid:∀ x,(enc x).ids=[]) (hl:xs.length≤2 ^ 20) (hC:Cov S (idsL cap)) (hP:∀ x∈xs,Reads S c (enc x::cap) (.bool (P x))):
  ∃ r:Int,decide (0≤r)=xs.any P∧Reads S 258 [.sl (xs.map enc) t, .fn c cap] (.int .i64 r):=by
 have hC':Cov S (idsL [.sl (xs.map enc) .no, .fn c cap]):=by
  have:idsL [.sl (xs.map enc) .no, .fn c cap]=idsL cap:=by simp[idsL,AV.ids,z0c hid]
  rw[this];exact hC
 have key:∀ n,n≤xs.length→∃ r:Int,decide (0≤r)=(xs.drop (xs.length - n)).any P∧∀ (D L:List AObj) (B clk:Nat) (ks:List Kf) (ts:Tmps) (Q:Post),Has S D→ts 0= .sl (xs.map enc) .no→ts 1= .fn c cap→ts 7= .int .i64 (xs.length:Int)→ts 8= .int .i64 ((xs.length - n:Nat):Int)→
   (∀ ts' clk',ts' 4= .int .i64 r→K Gam B .ret ks ⟨ts',D++L,clk'⟩ Q)→(r= -1→∀ ts' clk',K Gam B (.exit 0) ks ⟨ts',D++L,clk'⟩ Q)→K Gam B (.loop x2z) ks ⟨ts,D++L,clk⟩ Q:=by
  intro n
  induction n with
  | zero=>
    intro _
    refine⟨-1,by simp,fun D L B clk ks ts Q hS h0 h1 h7 h8 _ hx=> ?_⟩
    have e1:decide (((xs.length - 0:Nat):Int) < (xs.length:Int))=false:=by rw[decide_eq_false_iff_not];omega
    refine z3f ?_
    simp only[go_sem,h0,h1,h7,h8,x2z,e1]
    exact hx rfl _ _
  | succ n ih=>
    intro hn
    have hk:xs.length - (n + 1) < xs.length:=by omega
    have hdr:xs.drop (xs.length - (n + 1))=xs[xs.length - (n + 1)]::xs.drop (xs.length - n):=by
     rw[List.drop_eq_getElem_cons hk]
     congr 2
     omega
    have e1:decide (((xs.length - (n + 1):Nat):Int) < (xs.length:Int))=true:=by rw[decide_eq_true_iff];omega
    have hpx:=hP _ (List.getElem_mem hk)
    generalize hxx:xs[xs.length - (n + 1)]=x at hdr hpx
    have hidx:∀ h,z1m h 3 (.sl (xs.map enc) .no) (.int .i64 ((xs.length - (n + 1):Nat):Int))=some (.iptr (enc x).cells 0,h):=fun h=>by
     rw[←hxx]
     exact z5q (by simp[hk]) (hE _)
    have hcx:∀ h,q1u h (some 3) (.iptr (enc x).cells 0)=some (enc x,h):=hld x
    cases hpb:P x with
    | true=>
      refine⟨((xs.length - (n + 1):Nat):Int), ?_,fun D L B clk ks ts Q hS h0 h1 h7 h8 hr _=> ?_⟩
      ·rw[hdr,List.any_cons,hpb,Bool.true_or,decide_eq_true_iff];omega
      ·refine z3f ?_
       rw[hpb] at hpx
       simp only[go_sem,z0,z1,z2,z3,reduceCtorEq,↓reduceIte,h0,h1,h7,h8,x2z,e1,hidx,hcx,z0w hpx hS.app]
       exact hr _ _ (by simp[z0b])
    | false=>
      obtain⟨r,h1',h2'⟩:=ih (by omega)
      refine⟨r,by rw[h1',hdr,List.any_cons,hpb,Bool.false_or],fun D L B clk ks ts Q hS h0 h1 h7 h8 hr hx=> ?_⟩
      have e2:IntKind.i64.wrap (((xs.length - (n + 1):Nat):Int) + 1)=((xs.length - n:Nat):Int):=by rw[z0d (by omega) (by omega)];omega
      refine z3f ?_
      rw[hpb] at hpx
      simp only[go_sem,z0,z1,z2,z3,reduceCtorEq,↓reduceIte,h0,h1,h7,h8,x2z,e1,hidx,hcx,z0w hpx hS.app,e2]
      exact h2' D L B _ ks _ Q hS (by simp[z0b,h0]) (by simp[z0b,h1]) (by simp[z0b,h7]) (by simp[z0b]) hr hx
 obtain⟨r,h1,h2⟩:=key xs.length (Nat.le_refl _)
 rw[Nat.sub_self,List.drop_zero] at h1
 refine⟨r,h1,Reads.of rfl y8b rfl rfl rfl rfl (by simpa [cvL,AV.cv] using hC') fun D B clk T hB hS hlt hT=> ?_⟩
 simp only[go_sem,w9c,List.length_map]
 refine h2 D _ B _ _ _ _ hS (by simp[z0b,z2w]) (by simp[z0b,z7g,z2w]) (by simp[z0b]) (by simp[z0b]) (fun ts' clk' q4=> ?_) (fun hr0 ts' clk'=> ?_)
 ·simp only[go_sem,q4]
  rw[z2m]
  exact hT _ hS.app
 ·simp only[go_sem,]
  rw[z2m,←hr0]
  exact hT _ hS.app
theorem k7c {α:Type} {enc:α→AV} {xs:List α} {S:List (Nat×AObj)} {c:Nat} {cap:List AV} {P:α→Bool} {t:Tip} (hE:∀ x,(enc x).cells.length=3) (hld:∀ x h,q1u h (some 3) (.iptr (enc x).cells 0)=some (enc x,h)) (hid:∀ x,(enc x).ids=[]) (hl:xs.length≤2 ^ 20) (hC:Cov S (idsL cap)) (hP:∀ x∈xs,Reads S c (enc x::cap) (.bool (P x))):
  Reads S 199 [.sl (xs.map enc) t, .fn c cap] (.bool (xs.any P)):=by
 obtain⟨r,h1,h2⟩:=k7b (t:= .no) hE hld hid hl hC hP
 have hC':Cov S (idsL [.sl (xs.map enc) .no, .fn c cap]):=by
  have:idsL [.sl (xs.map enc) .no, .fn c cap]=idsL cap:=by simp[idsL,AV.ids,z0c hid]
  rw[this];exact hC
 refine Reads.of rfl y8a rfl rfl rfl rfl (by simpa [cvL,AV.cv] using hC') fun D B clk T hB hS hlt hT=> ?_
 simp only[go_sem,w9b,z0w h2 hS.app,h1]
 rw[z0e]
 exact hT _ hS.app
theorem k7d {α:Type} {enc:α→AV} {xs:List α} {S:List (Nat×AObj)} {c:Nat} {cap:List AV} {P:α→Bool} {t:Tip} (hE:∀ x,(enc x).cells.length=2) (hld:∀ x h,q1u h (some 2) (.iptr (enc x).cells 0)=some (enc x,h)) (hid:∀ x,(enc x).ids=[]) (hl:xs.length≤2 ^ 20) (hC:Cov S (idsL cap)) (hP:∀ x∈xs,Reads S c (enc x::cap) (.bool (P x))):
  ∃ r:Int,decide (0≤r)=xs.any P∧Reads S 250 [.sl (xs.map enc) t, .fn c cap] (.int .i64 r):=by
 have hC':Cov S (idsL [.sl (xs.map enc) .no, .fn c cap]):=by
  have:idsL [.sl (xs.map enc) .no, .fn c cap]=idsL cap:=by simp[idsL,AV.ids,z0c hid]
  rw[this];exact hC
 have key:∀ n,n≤xs.length→∃ r:Int,decide (0≤r)=(xs.drop (xs.length - n)).any P∧∀ (D L:List AObj) (B clk:Nat) (ks:List Kf) (ts:Tmps) (Q:Post),Has S D→ts 0= .sl (xs.map enc) .no→ts 1= .fn c cap→ts 7= .int .i64 (xs.length:Int)→ts 8= .int .i64 ((xs.length - n:Nat):Int)→
   (∀ ts' clk',ts' 4= .int .i64 r→K Gam B .ret ks ⟨ts',D++L,clk'⟩ Q)→(r= -1→∀ ts' clk',K Gam B (.exit 0) ks ⟨ts',D++L,clk'⟩ Q)→K Gam B (.loop x3a) ks ⟨ts,D++L,clk⟩ Q:=by
  intro n
  induction n with
  | zero=>
    intro _
    refine⟨-1,by simp,fun D L B clk ks ts Q hS h0 h1 h7 h8 _ hx=> ?_⟩
    have e1:decide (((xs.length - 0:Nat):Int) < (xs.length:Int))=false:=by rw[decide_eq_false_iff_not];omega
    refine z3f ?_
    simp only[go_sem,h0,h1,h7,h8,x3a,e1]
    exact hx rfl _ _
  | succ n ih=>
    intro hn
    have hk:xs.length - (n + 1) < xs.length:=by omega
    have hdr:xs.drop (xs.length - (n + 1))=xs[xs.length - (n + 1)]::xs.drop (xs.length - n):=by
     rw[List.drop_eq_getElem_cons hk]
     congr 2
     omega
    have e1:decide (((xs.length - (n + 1):Nat):Int) < (xs.length:Int))=true:=by rw[decide_eq_true_iff];omega
    have hpx:=hP _ (List.getElem_mem hk)
    generalize hxx:xs[xs.length - (n + 1)]=x at hdr hpx
    have hidx:∀ h,z1m h 2 (.sl (xs.map enc) .no) (.int .i64 ((xs.length - (n + 1):Nat):Int))=some (.iptr (enc x).cells 0,h):=fun h=>by
     rw[←hxx]
     exact z5q (by simp[hk]) (hE _)
    have hcx:∀ h,q1u h (some 2) (.iptr (enc x).cells 0)=some (enc x,h):=hld x
    cases hpb:P x with
    | true=>
      refine⟨((xs.length - (n + 1):Nat):Int), ?_,fun D L B clk ks ts Q hS h0 h1 h7 h8 hr _=> ?_⟩
      ·rw[hdr,List.any_cons,hpb,Bool.true_or,decide_eq_true_iff];omega
      ·refine z3f ?_
       rw[hpb] at hpx
       simp only[go_sem,z0,z1,z2,z3,reduceCtorEq,↓reduceIte,h0,h1,h7,h8,x3a,e1,hidx,hcx,z0w hpx hS.app]
       exact hr _ _ (by simp[z0b])
    | false=>
      obtain⟨r,h1',h2'⟩:=ih (by omega)
      refine⟨r,by rw[h1',hdr,List.any_cons,hpb,Bool.false_or],fun D L B clk ks ts Q hS h0 h1 h7 h8 hr hx=> ?_⟩
      have e2:IntKind.i64.wrap (((xs.length - (n + 1):Nat):Int) + 1)=((xs.length - n:Nat):Int):=by rw[z0d (by omega) (by omega)];omega
      refine z3f ?_
      rw[hpb] at hpx
      simp only[go_sem,z0,z1,z2,z3,reduceCtorEq,↓reduceIte,h0,h1,h7,h8,x3a,e1,hidx,hcx,z0w hpx hS.app,e2]
      exact h2' D L B _ ks _ Q hS (by simp[z0b,h0]) (by simp[z0b,h1]) (by simp[z0b,h7]) (by simp[z0b]) hr hx
 obtain⟨r,h1,h2⟩:=key xs.length (Nat.le_refl _)
 rw[Nat.sub_self,List.drop_zero] at h1
 refine⟨r,h1,Reads.of rfl y8k rfl rfl rfl rfl (by simpa [cvL,AV.cv] using hC') fun D B clk T hB hS hlt hT=> ?_⟩
 simp only[go_sem,w9l,List.length_map]
 refine h2 D _ B _ _ _ _ hS (by simp[z0b,z2w]) (by simp[z0b,z7g,z2w]) (by simp[z0b]) (by simp[z0b]) (fun ts' clk' q4=> ?_) (fun hr0 ts' clk'=> ?_)
 ·simp only[go_sem,q4]
  rw[z2m]
  exact hT _ hS.app
 ·simp only[go_sem,]
  rw[z2m,←hr0]
  exact hT _ hS.app
theorem j3w {α:Type} {enc:α→AV} {xs:List α} {S:List (Nat×AObj)} {c:Nat} {cap:List AV} {P:α→Bool} {t:Tip} (hE:∀ x,(enc x).cells.length=2) (hld:∀ x h,q1u h (some 2) (.iptr (enc x).cells 0)=some (enc x,h)) (hid:∀ x,(enc x).ids=[]) (hl:xs.length≤2 ^ 20) (hC:Cov S (idsL cap)) (hP:∀ x∈xs,Reads S c (enc x::cap) (.bool (P x))):
  Reads S 182 [.sl (xs.map enc) t, .fn c cap] (.bool (xs.any P)):=by
 obtain⟨r,h1,h2⟩:=k7d (t:= .no) hE hld hid hl hC hP
 have hC':Cov S (idsL [.sl (xs.map enc) .no, .fn c cap]):=by
  have:idsL [.sl (xs.map enc) .no, .fn c cap]=idsL cap:=by simp[idsL,AV.ids,z0c hid]
  rw[this];exact hC
 refine Reads.of rfl y8j rfl rfl rfl rfl (by simpa [cvL,AV.cv] using hC') fun D B clk T hB hS hlt hT=> ?_
 simp only[go_sem,w9k,z0w h2 hS.app,h1]
 rw[z0e]
 exact hT _ hS.app
section
theorem x4t {D L:List AObj} {B k:Nat} {o:AObj} (hB:D.length=B) (hL:L[k]? =some o):Has [(B + k,o)] (D++L):=by
 refine Has.cons ?_ Has.nil
 rw[z6k hB]
 exact hL
theorem k7e {s g:Nat} {x y:Int}:Reads [(s, .blk g [.int .i64 y] false false 0)] 324 [.int .i64 x, .ptr s g 0 0] (.bool (!decide (x=y))):=by
 refine Reads.of rfl y7p rfl rfl rfl rfl (Cov.one rfl) fun D B clk T hB hS hlt hT=> ?_
 have hs:=hlt _ List.mem_cons_self
 have hb:=z5z (g:=g) (hS _ List.mem_cons_self)
 dsimp only at hs hb
 simp only[go_sem,w8m,z4e hB hs,hb]
 rw[z0e]
 exact hT _ hS.app
theorem q2d {ss:List Nat} {s:Nat} {t:Tip} (h:∀ x∈ss,x=s) (hl:ss.length≤2 ^ 20):Pure Gam 280 [.sl (ss.map nat) t,nat s] (.bool true):=by
 refine Pure.of rfl y7o rfl rfl rfl (az:=[.sl (ss.map nat) .no,nat s]) rfl (by simp[idsL,AV.ids,z0c (f:=nat) fun _=>z3c,z3c]) fun D B clk T hB hT=> ?_
 have hr:∀ g,Reads [(B + 0, .blk g [.int .i64 (s:Int)] false false 0)] 259 [.sl (ss.map nat) .no, .fn 324 [.ptr (B + 0) g 0 0]] (.bool (ss.any fun x=> !decide ((x:Int)=(s:Int)))):=fun g=>
  k6z (enc:=nat) (P:=fun x=> !decide ((x:Int)=(s:Int))) (fun _=>rfl) (fun _ _=>rfl) (fun _=>rfl) hl (Cov.one rfl) fun x _=>k7e
 have e:(ss.any fun x=> !decide ((x:Int)=(s:Int)))=false:=by
  rw[List.any_eq_false]
  intro x hx
  simp[h x hx]
 rw[e] at hr
 simp only[go_sem,w8l,nat,hB]
 rw[z0w (hr _) (x4t hB rfl)]
 simp only[go_sem,Bool.not_false]
 rw[z0e]
 exact hT _
theorem z2o {s:Int}:Pure Gam 279 [.bool true, .int .i64 s] (.int .i64 s):=by
 refine Pure.of rfl y7n rfl rfl rfl rfl rfl fun D B clk T hB hT=> ?_
 simp only[go_sem,w8k]
 rw[z2m]
 exact hT _
theorem j0q {s:Nat} (hs:s=2∨s=3):Pure Gam 281 [nat s] (.bool true):=by
 refine Pure.of rfl y7s rfl rfl rfl rfl rfl fun D B clk T hB hT=> ?_
 rcases hs with rfl | rfl
 ·simp only[go_sem,v7d,nat,Int.cast_ofNat_Int,Int.reduceEq,decide_true,decide_false]
  rw[z0e]
  exact hT _
 ·simp only[go_sem,v7d,nat,Int.cast_ofNat_Int,Int.reduceEq,decide_true,decide_false]
  rw[z0e]
  exact hT _
theorem v7x {s:Nat} (h1:1≤s) (h4:s≤4):Pure Gam 276 [nat s] (.bool true):=by
 refine Pure.of rfl y7k rfl rfl rfl rfl rfl fun D B clk T hB hT=> ?_
 have e1:decide ((1:Int)≤(s:Int))=true:=by rw[decide_eq_true_iff];omega
 have e2:decide ((s:Int)≤4)=true:=by rw[decide_eq_true_iff];omega
 simp only[go_sem,w8i,nat,e1,e2]
 rw[z0e]
 exact hT _
class UOk (U:List Var):Prop where
 name:∀ v∈U,q0t x1m [.str v.name]=some (.bool true)
 name2:∀ v∈U,q0t q2y [.str v.name]=some (.bool true)
 sort:∀ v∈U,1≤v.sort∧v.sort≤4
 inj:∀ v∈U,∀ w∈U,v.name=w.name→v=w
instance:UOk z2h where
 name v hv:=by
  simp only[z2h,List.mem_cons,List.not_mem_nil,or_false] at hv
  rcases hv with rfl | rfl | rfl | rfl | rfl | rfl | rfl | rfl <;> rfl
 name2 v hv:=by
  simp only[z2h,List.mem_cons,List.not_mem_nil,or_false] at hv
  rcases hv with rfl | rfl | rfl | rfl | rfl | rfl | rfl | rfl <;> rfl
 sort:=by decide
 inj:=by decide
variable {U:List Var} [UOk U]
theorem j0r {v:Var} (hv:v∈U):Pure Gam 210 [.str v.name] (.bool true):=Pure.tab (tab:=x1m) rfl rfl (UOk.name v hv)
theorem q5d {v:Var} (hv:v∈U):1≤v.sort∧v.sort≤4:=UOk.sort v hv
theorem q0n {h:List AObj} {K k:IntKind} {n:Int} {a:AV} {xs:List AV} {t:Tip}:z1m h 1 (.sl (a:: .int K n::xs) t) (.int k 1)=some (.iptr [.int K n] 0,h):=z5q (i:=1) (e:= .int K n) rfl rfl
theorem q9x {h:List AObj} {K k:IntKind} {n:Int} {a b:AV} {xs:List AV} {t:Tip}:z1m h 1 (.sl (a::b:: .int K n::xs) t) (.int k 2)=some (.iptr [.int K n] 0,h):=z5q (i:=2) (e:= .int K n) rfl rfl
theorem z2u {o k:Nat} (ho:o=1∨o=2∨o=6∨o=7∨o=8∨o=9∨o=10∨o=11∨o=12∨o=13∨o=14∨o=15∨o=18∨o=19∨o=20):Pure Gam 216 [eNode (bare o k)] (.bool true):=by
 refine Pure.of rfl k1g rfl rfl rfl rfl rfl fun D B clk T hB hT=> ?_
 have e1:decide ((o:Int)=3)=false:=by rw[decide_eq_false_iff_not];omega
 have e2:decide ((o:Int)=4)=false:=by rw[decide_eq_false_iff_not];omega
 have e3:decide ((o:Int)=5)=false:=by rw[decide_eq_false_iff_not];omega
 have e4:decide ((o:Int)=16)=false:=by rw[decide_eq_false_iff_not];omega
 have e5:decide ((o:Int)=17)=false:=by rw[decide_eq_false_iff_not];omega
 have e6:decide ((1:Int)≤(o:Int))=true:=by rw[decide_eq_true_iff];omega
 have e7:decide ((o:Int)≤20)=true:=by rw[decide_eq_true_iff];omega
 have e8:decide (((0:Nat):Int)=0)=true:=rfl
 simp only[go_sem,j0k,hB,eNode,bare,nat,e1,e2,e3,e4,e5,e6,e7,e8,decide_true]
 rw[z0e]
 exact hT _
theorem v7y {V:List Var} {n:Node} {ss:List Nat} {s:Nat} {ks:Term} (hn:NodeOk V n ss s ks) (hV:∀ v∈V,v∈U):Pure Gam 216 [eNode n] (.bool true):=by
 cases hn with
 | bool h=>exact z2u (by omega)
 | not=>exact z2u (by omega)
 | andor h=>exact z2u (by omega)
 | imp=>exact z2u (by omega)
 | ite h1 h2=>exact z2u (by omega)
 | eq h1 h2=>exact z2u (by omega)
 | cmp h hs=>exact z2u (by omega)
 | add h hs=>exact z2u (by omega)
 | mul hs hn=>exact z2u (by omega)
 | select=>exact z2u (by omega)
 | store=>exact z2u (by omega)
 | const=>exact z2u (by omega)
 | int h=>
   refine Pure.of rfl k1g rfl rfl rfl rfl rfl fun D B clk T hB hT=> ?_
   simp only[go_sem,j0k,hB,eNode,nat,Int.cast_ofNat_Int,Int.reduceEq,decide_true,decide_false,z0a (j0n h)]
   rw[z0e]
   exact hT _
 | real h=>
   refine Pure.of rfl k1g rfl rfl rfl rfl rfl fun D B clk T hB hT=> ?_
   simp only[go_sem,j0k,hB,eNode,nat,Int.cast_ofNat_Int,Int.reduceEq,decide_true,decide_false,z0a (x7v h)]
   rw[z0e]
   exact hT _
 | var h=>
   refine Pure.of rfl k1g rfl rfl rfl rfl rfl fun D B clk T hB hT=> ?_
   have hs:=q5d (hV _ h)
   have h1:=v7x hs.1 hs.2
   rw[nat] at h1
   simp only[go_sem,j0k,hB,eNode,nat,Int.cast_ofNat_Int,Int.reduceEq,decide_true,decide_false,z0a h1,z0a (j0r (hV _ h))]
   rw[z0e]
   exact hT _
 | @div o k _ ho h1 h5=>
   refine Pure.of rfl k1g rfl rfl rfl rfl rfl fun D B clk T hB hT=> ?_
   have hp1:Pure Gam 277 [.str (dec k)] (.bool true):=by
    have:=k1h (z:=(k:Int)) (by rw[Int.natAbs_natCast,z9q (by omega)];simp)
    rwa [z3d,if_neg (by omega),Int.natAbs_natCast] at this
   have hp2:=v7v h1 h5
   have e1:decide ((o:Int)=3)=false:=by rw[decide_eq_false_iff_not];omega
   have e2:decide ((o:Int)=4)=false:=by rw[decide_eq_false_iff_not];omega
   have e3:decide ((o:Int)=5)=false:=by rw[decide_eq_false_iff_not];omega
   have e8:decide (((0:Nat):Int)=0)=true:=rfl
   rcases ho with rfl | rfl
   ·simp only[go_sem,j0k,hB,eNode,nat,Int.cast_ofNat_Int,Int.reduceEq,Int.reduceLT,decide_true,decide_false,e8,z0a hp1,z0a hp2]
    rw[z0e]
    exact hT _
   ·simp only[go_sem,j0k,hB,eNode,nat,Int.cast_ofNat_Int,Int.reduceEq,Int.reduceLT,decide_true,decide_false,e8,z0a hp1,z0a hp2]
    rw[z0e]
    exact hT _
end
theorem v7z {V:List Var} {n:Node} {ss:List Nat} {s:Nat} {ks:Term} (hn:NodeOk V n ss s ks):Pure Gam 217 [nat n.op,nat n.kids] (.bool true):=by
 refine Pure.of rfl y7i rfl rfl rfl rfl rfl fun D B clk T hB hT=> ?_
 have e0:decide (((0:Nat):Int)=0)=true:=rfl
 cases hn with
 | bool h=>
   rcases h with rfl | rfl
   all_goals
    simp only[go_sem,x1e,nat,bare,Int.cast_ofNat_Int,Int.reduceEq,decide_true,decide_false]
    rw[z0e]
    exact hT _
 | int h=>
   simp only[go_sem,x1e,nat,Int.cast_ofNat_Int,Int.reduceEq,decide_true,decide_false]
   rw[z0e]
   exact hT _
 | real h=>
   simp only[go_sem,x1e,nat,Int.cast_ofNat_Int,Int.reduceEq,decide_true,decide_false]
   rw[z0e]
   exact hT _
 | var h=>
   simp only[go_sem,x1e,nat,Int.cast_ofNat_Int,Int.reduceEq,decide_true,decide_false]
   rw[z0e]
   exact hT _
 | andor h=>
   rcases h with rfl | rfl
   all_goals
    simp only[go_sem,x1e,nat,bare,Int.cast_ofNat_Int,Int.reduceEq,decide_true,decide_false]
    rw[z0e]
    exact hT _
 | cmp h hs=>
   rcases h with rfl | rfl
   all_goals
    simp only[go_sem,x1e,nat,bare,Int.cast_ofNat_Int,Int.reduceEq,decide_true,decide_false]
    rw[z0e]
    exact hT _
 | @add k _ _ h hs=>
   have e1:decide ((1:Int)≤(k:Int))=true:=by rw[decide_eq_true_iff];omega
   simp only[go_sem,x1e,nat,bare,Int.cast_ofNat_Int,Int.reduceEq,decide_true,decide_false,e1]
   rw[z0e]
   exact hT _
 | div h h1 h5=>
   rcases h with rfl | rfl
   all_goals
    simp only[go_sem,x1e,nat,Int.cast_ofNat_Int,Int.reduceEq,decide_true,decide_false]
    rw[z0e]
    exact hT _
 | _=>
   simp only[go_sem,x1e,nat,bare,Int.cast_ofNat_Int,Int.reduceEq,decide_true,decide_false]
   rw[z0e]
   exact hT _
theorem q5e {l:List Nat}:idsL (l.map nat)=[]:=z0c fun _=>rfl
theorem v1f {k s:Nat}:∀ x∈List.replicate k s,x=s:=fun _ hx=>(List.mem_replicate.1 hx).2
theorem k7f {k s:Nat} {h:List AObj} {t:Tip} (hk:1≤k):z1m h 1 (.sl ((List.replicate k s).map nat) t) (.int .i64 0)=some (.iptr [.int .i64 (s:Int)] 0,h):=by
 obtain⟨k,rfl⟩:∃ j,k=j + 1:=⟨k - 1,by omega⟩
 exact z5q (i:=0) (e:=nat s) rfl rfl
theorem v8a {V:List Var} {n:Node} {ss:List Nat} {s:Nat} {ks:Term} {t:Tip} (hn:NodeOk V n ss s ks) (hl:ss.length≤2 ^ 20):Pure Gam 218 [eNode n, .sl (ss.map nat) t] (.int .i64 (s:Int)):=by
 refine Pure.of rfl y7j rfl rfl rfl (az:=[eNode n, .sl (ss.map nat) .no]) (by simp[cvL,k0l,AV.cv]) (by simp[idsL,z1y,AV.ids,q5e]) fun D B clk T hB hT=> ?_
 cases hn with
 | bool h=>
   have hp:=q2d (ss:=[]) (s:=1) (t:= .no) (by simp) (by simp)
   rw[List.map_nil,nat,Int.cast_ofNat_Int] at hp
   rcases h with rfl | rfl
   all_goals
    simp only[go_sem,q2b,hB,eNode,nat,bare,Int.cast_ofNat_Int,Int.reduceEq,decide_true,decide_false,z0a hp,z0a z2o]
    rw[z2m]
    exact hT _
 | int h=>
   simp only[go_sem,q2b,hB,eNode,nat,Int.cast_ofNat_Int,Int.reduceEq,decide_true,decide_false]
   rw[z2m]
   exact hT _
 | real h=>
   simp only[go_sem,q2b,hB,eNode,nat,Int.cast_ofNat_Int,Int.reduceEq,decide_true,decide_false]
   rw[z2m]
   exact hT _
 | var h=>
   simp only[go_sem,q2b,hB,eNode,nat,Int.cast_ofNat_Int,Int.reduceEq,decide_true,decide_false]
   rw[z2m]
   exact hT _
 | not=>
   have hp:=q2d (ss:=[1]) (s:=1) (t:= .no) (by simp) (by simp)
   rw[List.map_cons,List.map_nil,nat,Int.cast_ofNat_Int] at hp
   simp only[go_sem,q2b,hB,eNode,nat,bare,Int.cast_ofNat_Int,Int.reduceEq,decide_true,decide_false,z0a hp,z0a z2o]
   rw[z2m]
   exact hT _
 | @andor o k _ h=>
   have hp:=q2d (ss:=List.replicate k 1) (s:=1) (t:= .no) v1f hl
   rw[show nat 1= .int .i64 1 from rfl] at hp
   rcases h with rfl | rfl
   all_goals
    simp only[go_sem,z0,z1,z2,z3,reduceCtorEq,↓reduceIte,q2b,hB,eNode,nat,bare,Int.cast_ofNat_Int,Int.reduceEq,decide_true,decide_false,z0a hp,z0a z2o]
    rw[z2m]
    exact hT _
 | imp=>
   have hp:=q2d (ss:=[1,1]) (s:=1) (t:= .no) (by simp) (by simp)
   rw[List.map_cons,List.map_cons,List.map_nil,nat,Int.cast_ofNat_Int] at hp
   simp only[go_sem,q2b,hB,eNode,nat,bare,Int.cast_ofNat_Int,Int.reduceEq,decide_true,decide_false,z0a hp,z0a z2o]
   rw[z2m]
   exact hT _
 | @ite s _ h1 h2=>
   have e1:decide ((s:Int)=(s:Int))=true:=by simp
   simp only[go_sem,q2b,hB,eNode,nat,bare,Int.cast_ofNat_Int,Int.reduceEq,decide_true,decide_false,z2n,q0n,q9x,z0a z2o]
   rw[z2m]
   exact hT _
 | @eq s _ h1 h2=>
   simp only[go_sem,q2b,hB,eNode,nat,bare,Int.cast_ofNat_Int,Int.reduceEq,decide_true,decide_false,z2n,q0n,z0a z2o]
   rw[z2m]
   exact hT _
 | @cmp o s _ h hs=>
   have hp:=q2d (ss:=[s,s]) (s:=s) (t:= .no) (by simp) (by simp)
   have hp2:=j0q hs
   rw[List.map_cons,List.map_cons,List.map_nil,nat] at hp
   rw[nat] at hp2
   rcases h with rfl | rfl
   all_goals
    simp only[go_sem,q2b,hB,eNode,nat,bare,Int.cast_ofNat_Int,Int.reduceEq,decide_true,decide_false,z2n,z0a hp,z0a hp2,z0a z2o]
    rw[z2m]
    exact hT _
 | @add k s _ h hs=>
   have hp:=q2d (ss:=List.replicate k s) (s:=s) (t:= .no) v1f hl
   have hp2:=j0q hs
   have e1:∀ h',z1m h' 1 (.sl ((List.replicate k s).map nat) .no) (.int .i64 0)=some (.iptr [.int .i64 (s:Int)] 0,h'):=fun h'=>k7f h
   rw[show nat s= .int .i64 (s:Int) from rfl] at hp hp2
   have hX:idsL ((List.replicate k s).map nat)=[]:=q5e
   generalize (List.replicate k s).map nat=X at hp e1 hX
   simp only[go_sem,q2b,hB,z1i,eNode,nat,bare,Int.cast_ofNat_Int,Int.reduceEq,decide_true,decide_false,e1,z0a hp,z0a hp2,z0a z2o]
   refine⟨by simp[z1f,apart,z0i,z1d,z1h,AOp.isCall,hB,AV.ids,hX], ?_⟩
   rw[z2m]
   exact hT _
 | @mul s m _ hs hm=>
   have hp:=q2d (ss:=[s,s]) (s:=s) (t:= .no) (by simp) (by simp)
   have hp2:=j0q hs
   rw[List.map_cons,List.map_cons,List.map_nil,nat] at hp
   rw[nat] at hp2
   simp only[go_sem,q2b,hB,z1i,eNode,nat,bare,Int.cast_ofNat_Int,Int.reduceEq,decide_true,decide_false,z2n,z0a hp,z0a hp2,z0a z2o]
   refine⟨by simp[z1f,apart,z0i,z1d,z1h,AOp.isCall,hB,AV.ids,idsL], ?_⟩
   rw[z2m]
   exact hT _
 | div h h1 h5=>
   rcases h with rfl | rfl
   all_goals
    simp only[go_sem,q2b,hB,eNode,nat,Int.cast_ofNat_Int,Int.reduceEq,decide_true,decide_false,z2n,z0a z2o]
    rw[z2m]
    exact hT _
 | select=>
   simp only[go_sem,q2b,hB,eNode,nat,bare,Int.cast_ofNat_Int,Int.reduceEq,decide_true,decide_false,z2n,q0n,z0a z2o]
   rw[z2m]
   exact hT _
 | store=>
   obtain⟨u,hu⟩:∃ u,∀ h:List AObj,slV h (some 1) (.sl [.int .i64 4, .int .i64 2, .int .i64 2] .no) (some (.int .i64 1)) none none=some (.sl [.int .i64 2, .int .i64 2] u,h):=⟨.no,fun h=>by simp[slV,z2v,z4v,z4l,AV.cells]⟩
   have hp:=q2d (ss:=[2,2]) (s:=2) (t:=u) (by simp) (by simp)
   rw[List.map_cons,List.map_cons,List.map_nil,nat,Int.cast_ofNat_Int] at hp
   simp only[go_sem,q2b,hB,eNode,nat,bare,Int.cast_ofNat_Int,Int.reduceEq,decide_true,decide_false,z2n,hu,z0a hp,z0a z2o]
   rw[z2m]
   exact hT _
 | const=>
   simp only[go_sem,q2b,hB,eNode,nat,bare,Int.cast_ofNat_Int,Int.reduceEq,decide_true,decide_false,z2n,z0a z2o]
   rw[z2m]
   exact hT _
section
variable {U:List Var} [UOk U]
structure Tr where
 s:Nat
 len:Nat
 dep:Nat
def z9h (F:List Tr):Nat:=(F.map (·.len)).sum
theorem y1z:z9h []=0:=rfl
theorem q5f {f:Tr} {F:List Tr}:z9h (f::F)=f.len + z9h F:=by simp[z9h]
theorem q9y {F G:List Tr}:z9h (F++G)=z9h F + z9h G:=by simp[z9h]
theorem k1p {F:List Tr} {j:Nat} (hj:j < F.length):z9h (F.take (j + 1))=z9h (F.take j) + F[j].len:=by
 rw[List.take_succ_eq_append_getElem hj,q9y]
 simp[z9h]
def z4i (i:Nat):List Tr→List Nat
 | []=>[]
 | f::F=>i::z4i (i + f.len) F
theorem q0o {i:Nat} {F:List Tr}:(z4i i F).length=F.length:=by
 induction F generalizing i with
 | nil=>rfl
 | cons f F ih=>simp[z4i,ih]
theorem q5g {i:Nat} {F G:List Tr}:z4i i (F++G)=z4i i F++z4i (i + z9h F) G:=by
 induction F generalizing i with
 | nil=>rfl
 | cons f F ih=>simp only[List.cons_append,z4i,ih,q5f,Nat.add_assoc]
theorem j6u {i j:Nat} {F:List Tr} (hj:j < F.length):(z4i i F)[j]? =some (i + z9h (F.take j)):=by
 induction F generalizing i j with
 | nil=>simp at hj
 | cons f F ih=>
   cases j with
   | zero=>simp[z4i,z9h]
   | succ j=>
     simp only[z4i,List.getElem?_cons_succ,List.take_succ_cons,q5f]
     rw[ih (by simpa using hj),Nat.add_assoc]
structure Pt where
 sort:Nat
 depth:Nat
 fin:Nat
def ePt (p:Pt):AV:= .agg [.int .i64 (p.sort:Int), .int .i64 (p.depth:Int), .int .i64 (p.fin:Int)]
def PartsOk (P:List Pt) (i:Nat) (F:List Tr):Prop:=∀ j f,F[j]? =some f→P[i + z9h (F.take j)]? =some ⟨f.s,f.dep,i + z9h (F.take j) + f.len⟩
theorem PartsOk.nil {P:List Pt} {i:Nat}:PartsOk P i []:=fun j f h=>by simp at h
theorem PartsOk.node {P:List Pt} {i:Nat} {K G:List Tr} {s dep:Nat} (h:PartsOk P (i + 1) (K++G)) (hi:i < P.length):PartsOk (P.set i ⟨s,dep,i + (1 + z9h K)⟩) i (⟨s,1 + z9h K,dep⟩::G):=by
 intro j f hj
 cases j with
 | zero=>
   simp at hj
   subst hj
   simp[z9h,hi]
 | succ j=>
   simp only[List.getElem?_cons_succ] at hj
   have:=h (K.length + j) f (by rw[List.getElem?_append_right (by omega)];simpa using hj)
   rw[List.take_append,List.take_of_length_le (by omega),q9y,show K.length + j - K.length=j by omega] at this
   simp only[List.take_succ_cons,q5f]
   rw[List.getElem?_set_ne (by omega)]
   rw[show i + (1 + z9h K + z9h (G.take j))=i + 1 + (z9h K + z9h (G.take j)) by omega]
   exact this
theorem NodeOk.pos {V:List Var} {n:Node} {ss:List Nat} {s:Nat} {ks:Term} (hn:NodeOk V n ss s ks) (hV:∀ v∈V,v∈U):1≤s∧s≤4:=by
 cases hn with
 | var h=>exact q5d (hV _ h)
 | cmp h hs=>omega
 | add h hs=>omega
 | mul hs hn=>omega
 | ite h1 h2=>omega
 | eq h1 h2=>omega
 | _=>omega
theorem NodeOk.mul_num {V:List Var} {n:Node} {ss:List Nat} {s:Nat} {ks:Term} (hn:NodeOk V n ss s ks) (h:n.op=15):∃ m r,ks=m::r∧m.op=3:=by
 cases hn with
 | mul hs hm=>exact⟨_,_,rfl,hm⟩
 | bool h'=>exact absurd h (by simp[bare];omega)
 | andor h'=>exact absurd h (by simp[bare];omega)
 | cmp h' _=>exact absurd h (by simp[bare];omega)
 | div h' _ _=>exact absurd h (by simp;omega)
 | _=>simp[bare] at h
def k1q (B i:Nat) (F:List Tr) (r:AV) (o:AObj):Prop:=(F=[]∧r= .sl [] .nil)∨(F≠[]∧∃ g,r= .ob (B + 9) g 0 F.length∧o= .blk g ((z4i i F).reverse.map nat) true true 0)
def z7u (D:List AObj) (B:Nat) (t:Term) (gP gV g2:Nat) (P:List Pt) (o3 o4 o5 o6 o7 o8 o9:AObj):List AObj:=
 D++[.blk gP (P.map ePt) true false 0, .blk gV [.agg [z0l t, .ob (B + 0) gP 0 t.length]] false false 0, .blk g2 [.ptr (B + 1) gV 0 0] false false 0,o3,o4,o5,o6,o7,o8,o9]
def j3x (D:List AObj) (B:Nat) (t:Term) (gP gV g2:Nat) (i:Nat) (F:List Tr) (q:St):Prop:=
 ∃ P o3 o4 o5 o6 o7 o8 o9,P.length=t.length∧PartsOk P i F∧q.ts 0=z0l t∧q.ts 4= .ptr (B + 2) g2 0 0∧q.ts 6= .int .i64 ((i:Int) - 1)∧k1q B i F (q.ts 5) o9∧q.h=z7u D B t gP gV g2 P o3 o4 o5 o6 o7 o8 o9
theorem j0s {D:List AObj} {B:Nat} {t:Term} {gP gV g2 i:Nat} {K G:List Tr} {r:AV} {o:AObj} (hB:D.length=B) (hr:k1q B (i + 1) (K++G) r o) (hl:(K++G).length≤2 ^ 20):
  (∀ h,k9k h .sl r=some (.int .i64 ((K++G).length:Int),h))∧
  ∃ kv rv:AV,(∀ P o3 o4 o5 o6 o7 o8,slV (z7u D B t gP gV g2 P o3 o4 o5 o6 o7 o8 o) (some 1) r (some (.int .i64 (G.length:Int))) none none=some (kv,z7u D B t gP gV g2 P o3 o4 o5 o6 o7 o8 o))∧
    (∀ P o3 o4 o5 o6 o7 o8,slV (z7u D B t gP gV g2 P o3 o4 o5 o6 o7 o8 o) (some 1) r none (some (.int .i64 (G.length:Int))) none=some (rv,z7u D B t gP gV g2 P o3 o4 o5 o6 o7 o8 o))∧
    z7c kv=some K.length∧
    (∀ j P o3 o4 o5 o6 o7 o8,j < K.length→q6n (z7u D B t gP gV g2 P o3 o4 o5 o6 o7 o8 o) kv (K.length - 1 - j)=some (nat (i + 1 + z9h (K.take j))))∧
    (∀ (f:Tr) P o3 o4 o5 o6 o7 g8 gen,f.len=1 + z9h K→z1g (z7u D B t gP gV g2 P o3 o4 o5 o6 o7 (.blk g8 [nat i] true false 0) o) (B + 9) gen 1 8 true rv (.ob (B + 8) g8 0 1)=some (.ob (B + 9) gen 0 (G.length + 1),z7u D B t gP gV g2 P o3 o4 o5 o6 o7 (.blk g8 [nat i] true false 0) (.blk gen ((z4i i (f::G)).reverse.map nat) true true 0))):=by
 have hsrc:∀ P o3 o4 o5 o6 o7 g8,z5a (z7u D B t gP gV g2 P o3 o4 o5 o6 o7 (.blk g8 [nat i] true false 0) o) (.ob (B + 8) g8 0 1)=some [nat i]:=fun P o3 o4 o5 o6 o7 g8=>
  z9a (k:=8) (es:=[nat i]) (w:=false) hB rfl rfl
 rcases hr with ⟨hF,rfl⟩ | ⟨hF,g,rfl,rfl⟩
 ·have hK:K=[]:=(List.append_eq_nil_iff.1 hF).1
  have hG:G=[]:=(List.append_eq_nil_iff.1 hF).2
  subst hK;subst hG
  refine⟨fun h=>rfl, .sl [] .nil, .sl [] .nil,fun _ _ _ _ _ _ _=>rfl,fun _ _ _ _ _ _ _=>rfl,rfl,fun j _ _ _ _ _ _ _ hj=>by simp at hj,fun f P o3 o4 o5 o6 o7 g8 gen hf=> ?_⟩
  unfold z1g
  rw[hsrc]
  simp[z0t,nat,AV.def?,AV.cells,AV.one,z1c,z7u,z5i hB,z4i]
 ·have hN:(K++G).length=K.length + G.length:=List.length_append
  have hgr:(z7u D B t gP gV g2 [] .dead .dead .dead .dead .dead .dead (.blk g ((z4i (i + 1) (K++G)).reverse.map nat) true true 0)).length=B + 10:=by simp[z7u,hB]
  have hblk:∀ P o3 o4 o5 o6 o7 o8,z2a (z7u D B t gP gV g2 P o3 o4 o5 o6 o7 o8 (.blk g ((z4i (i + 1) (K++G)).reverse.map nat) true true 0)) (B + 9) g=some ((z4i (i + 1) (K++G)).reverse.map nat,true,true,0):=fun P o3 o4 o5 o6 o7 o8=>by
   unfold z7u
   rw[z6w hB]
   simp[z2a]
  have hlen:((z4i (i + 1) (K++G)).reverse.map nat).length=(K++G).length:=by simp[q0o]
  have hhead:z4l 1 ((z4i (i + 1) (K++G)).reverse.map nat)=true:=by
   cases (z4i (i + 1) (K++G)).reverse <;> rfl
  have hall:z0t 1 ((z4i (i + 1) (K++G)).reverse.map nat)=true:=z3y
  refine⟨fun h=>rfl, .ob (B + 9) g G.length K.length, .ob (B + 9) g 0 G.length,fun P o3 o4 o5 o6 o7 o8=> ?_,fun P o3 o4 o5 o6 o7 o8=> ?_, ?_,fun j P o3 o4 o5 o6 o7 o8 hj=> ?_,fun f P o3 o4 o5 o6 o7 g8 gen hf=> ?_⟩
  ·simp only[slV,z2v,hblk,z4v,Int.natCast_nonneg,if_true,Int.toNat_natCast]
   rw[if_pos ⟨by omega,hhead,by omega,by omega⟩,Option.map_some]
   rw[Nat.zero_add,show (K++G).length - G.length=K.length by omega]
  ·simp only[slV,z2v,hblk,z4v,Int.natCast_nonneg,if_true,Int.toNat_natCast]
   rw[if_pos ⟨by omega,hhead,by omega,by omega⟩,Option.map_some]
   rfl
  ·simp only[z7c]
   rw[if_pos (by omega)]
  ·unfold q6n
   simp only[z5a,q7e,hblk]
   rw[if_pos (by omega)]
   have h1:(((List.map nat (z4i (i + 1) (K++G)).reverse).drop G.length).take K.length)[K.length - 1 - j]? =some (nat (i + 1 + z9h (K.take j))):=by
    rw[List.getElem?_take_of_lt (by omega),List.getElem?_drop,List.getElem?_map,List.getElem?_reverse (by rw[q0o];omega),q0o,show (K++G).length - 1 - (G.length + (K.length - 1 - j))=j by omega,q5g,List.getElem?_append_left (by rw[q0o];omega),j6u hj]
    rfl
   simp only[h1]
   rfl
  ·have hGK:(List.map nat (z4i (i + 1) (K++G)).reverse).take G.length=(z4i (i + 1 + z9h K) G).reverse.map nat:=by
    rw[←List.map_take,q5g,List.reverse_append,List.take_left' (by simp[q0o])]
   have hnew:(z4i i (f::G)).reverse.map nat=(z4i (i + 1 + z9h K) G).reverse.map nat++[nat i]:=by
    rw[z4i,hf,List.reverse_cons,List.map_append,show i + (1 + z9h K)=i + 1 + z9h K by omega]
    rfl
   unfold z1g
   rw[hsrc]
   have hpos:0 < (K++G).length:=List.length_pos_iff.2 hF
   have hgt:¬ (G.length + 1) * (8 + 1) > z1c:=by unfold z1c;omega
   have ha1:z0t 1 [nat i]=true:=rfl
   simp only[ha1,hblk,hall,List.length_singleton,decide_eq_true_eq,hgt,Bool.not_true,Bool.false_eq_true,if_false,beq_self_eq_true,decide_false,Bool.or_self,List.isEmpty_cons,if_true,Nat.zero_le,hlen,true_and]
   rw[if_pos ⟨by omega,hpos⟩,hGK,←hnew]
   congr 2
   simp only[z7u,z5i hB,List.set_cons_succ,List.set_cons_zero]
end
section
variable {U:List Var} [UOk U]
section
variable {h:List AObj} {base g k:Nat} {ts:Tmps} {z:AV} {dst:Option Nat} {os:List AOper} {clk:Nat} {ks:List Kf} {Q:Post}
def bwV (h:List AObj) (f:Nat) (v:AV):Option (AV×List AObj):=if (z7c v).isSome then some (.bwd f v,h) else none
theorem w9n {f n:Nat} {v:AV} (hr:z7c v=some n):bwV h f v=some (.bwd f v,h):=by simp[bwV,hr]
theorem j6v {f:Nat} {x:AOpd}:O Gam base .plain g (⟨dst, .backward f x,none⟩::os) ⟨ts,h,clk⟩ ks Q=PP Gam base (bwV h f (x.ev ts)) dst g os ts clk ks Q:=by
 rw[q3c rfl];rfl
def y8n (h:List AObj) (s g:Nat) (z:AV) (v:AV):Option (AV×List AObj):=
 if !z.def? then none else match z9t h [v] with
  | some vs=>(z5n z.cells.length [z] [0] vs).map fun es=>(.ob s g 0 1,(freezeAll h (z4k [v])).set s (.blk g es true false 0))
  | none=>none
theorem k7g {s:Nat} {K J:IntKind} {a b:Int}:y8n h s g (.int K a) (.int J b)=some (.ob s g 0 1,h.set s (.blk g [.int J b] true false 0)):=(rfl)
theorem y8o {x:AOpd}:O Gam base .plain g (⟨dst, .buildSlice k true z 1 [(0,x)],none⟩::os) ⟨ts,h,clk⟩ ks Q=PP Gam base (y8n h (base + k) g z (x.ev ts)) dst g os ts clk ks Q:=by
 rw[q3c rfl]
 congr 1
end
attribute [-go_sem] g3n g3o
attribute [go_sem] j6v y8o k7g
theorem q7r {D:List AObj} {B gP n i:Nat} {P:List Pt} {L:List AObj} {p:Pt} (hB:D.length=B) (hi:P[i]? =some p) (hn:P.length=n):z1m (D++ .blk gP (P.map ePt) true false 0::L) 3 (.ob (B + 0) gP 0 n) (.int .i64 (i:Int))=some (.ptr (B + 0) gP i 0,D++ .blk gP (P.map ePt) true false 0::L):=by
 have hb:z2a (D++ .blk gP (P.map ePt) true false 0::L) (B + 0) gP=some (P.map ePt,true,false,0):=by rw[z6w hB];simp[z2a]
 have hlt:i < n:=by
  rw[List.getElem?_eq_some_iff] at hi
  have:=hi.1
  omega
 have h1:(P.map ePt)[0 + i]? =some (ePt p):=by rw[Nat.zero_add,List.getElem?_map,hi];rfl
 simp only[z1m,Int.natCast_nonneg,if_true,hb,Int.toNat_natCast,h1]
 rw[if_pos ⟨hlt,rfl⟩,Nat.zero_add]
theorem x4u {P:List Pt} {i:Nat} {p:Pt} (hi:P[i]? =some p):(P.map ePt)[i]? =some (.agg [.int .i64 (p.sort:Int), .int .i64 (p.depth:Int), .int .i64 (p.fin:Int)]):=by rw[List.getElem?_map,hi];rfl
theorem z3a {t:Term} {i:Nat} {n:Node} {h:List AObj} {u:Tip} {k:IntKind} (hi:t[i]? =some n):z1m h 5 (.sl (t.map eNode) u) (.int k (i:Int))=some (.iptr [.int .i64 (n.op:Int), .int .i64 (n.sort:Int), .str n.name, .str n.num, .int .i64 (n.kids:Int)] 0,h):=by
 have hlt:i < t.length:=by
  rw[List.getElem?_eq_some_iff] at hi
  exact hi.1
 have h1:t[i]=n:=by
  rw[List.getElem?_eq_some_iff] at hi
  exact hi.2
 rw[z2f (f:=eNode) hlt (cs:=[.int .i64 (n.op:Int), .int .i64 (n.sort:Int), .str n.name, .str n.num, .int .i64 (n.kids:Int)]) (esz:=5) (by rw[h1];rfl) rfl]
def w9o:ACode:=(.region 1 [⟨(some 12), .move (.tmp 66),none⟩] [])
def w9p:ACode:=(.block 3 (.seq (.region 12 [⟨(some 67), .load none (.tmp 10),none⟩,⟨(some 68), .load none (.tmp 4),none⟩,⟨(some 69), .nilCheck (.tmp 68),none⟩,⟨(some 70), .fieldAddr (.tmp 69) 1,none⟩,⟨(some 71), .load none (.tmp 70),none⟩,⟨(some 72), .move (.tmp 12),none⟩,⟨(some 73), .indexAddr none 3 (.tmp 71) (.tmp 72),none⟩,⟨(some 74), .fieldAddr (.tmp 73) 0,none⟩,⟨(some 75), .load none (.tmp 74),none⟩,⟨(some 76), .buildSlice 6 false (.int .i64 0) 1 [(0,(.tmp 75))],none⟩,⟨(some 77), .append 7 1 8 false (.tmp 67) (.tmp 76),none⟩,⟨none, .store 1 (.tmp 10) (.tmp 77),none⟩] [(0,9)]) (.seq (.region 14 [⟨(some 78), .fieldAddr (.tmp 9) 1,none⟩,⟨(some 79), .load none (.tmp 78),none⟩,⟨(some 80), .load none (.tmp 4),none⟩,⟨(some 81), .nilCheck (.tmp 80),none⟩,⟨(some 82), .fieldAddr (.tmp 81) 1,none⟩,⟨(some 83), .load none (.tmp 82),none⟩,⟨(some 84), .move (.tmp 12),none⟩,⟨(some 85), .indexAddr none 3 (.tmp 83) (.tmp 84),none⟩,⟨(some 86), .fieldAddr (.tmp 85) 1,none⟩,⟨(some 87), .load none (.tmp 86),none⟩,⟨(some 88), .binOp .add (.one .int) (.tmp 87) (.const (.int .i64 1)),none⟩,⟨(some 89), .minmax true (.tmp 79) (.tmp 88),none⟩,⟨(some 90), .fieldAddr (.tmp 9) 1,none⟩,⟨none, .store 1 (.tmp 90) (.tmp 89),none⟩] []) (.region 10 [⟨(some 91), .load none (.tmp 4),none⟩,⟨(some 92), .nilCheck (.tmp 91),none⟩,⟨(some 93), .fieldAddr (.tmp 92) 1,none⟩,⟨(some 94), .load none (.tmp 93),none⟩,⟨(some 95), .move (.tmp 12),none⟩,⟨(some 96), .indexAddr none 3 (.tmp 94) (.tmp 95),none⟩,⟨(some 97), .fieldAddr (.tmp 96) 2,none⟩,⟨(some 98), .load none (.tmp 97),none⟩,⟨(some 99), .fieldAddr (.tmp 9) 2,none⟩,⟨none, .store 1 (.tmp 99) (.tmp 98),none⟩] []))))
theorem j6w {Kk:List Tr} {j:Nat} (hj:j < Kk.length):((Kk.take (j + 1)).map (·.s)).map nat=((Kk.take j).map (·.s)).map nat++[.int .i64 (Kk[j].s:Int)]:=by
 rw[List.take_succ_eq_append_getElem hj,List.map_append,List.map_append]
 rfl
theorem k1r {D:List AObj} {B:Nat} {t:Term} {gP gV g2 g3 g4 g5 i d clk:Nat} {N:AV} {P:List Pt} {Kk G:List Tr} {kv:AV} {o6 o7 o8 o9:AObj} {ts:Tmps} {ks:List Kf} {Q:Post} (hB:D.length=B) (hPl:P.length=t.length) (hPo:PartsOk P (i + 1) (Kk++G)) (hKd:∀ f∈Kk,f.dep≤d) (hd:d≤1000) (hKl:Kk.length≤2 ^ 20)
  (hrow:z7c kv=some Kk.length) (helem:∀ j (P:List Pt) o3 o4 o5 o6 o7 o8,j < Kk.length→q6n (D++[.blk gP (P.map ePt) true false 0, .blk gV [.agg [z0l t, .ob (B + 0) gP 0 t.length]] false false 0, .blk g2 [.ptr (B + 1) gV 0 0] false false 0,o3,o4,o5,o6,o7,o8,o9]) kv (Kk.length - 1 - j)=some (nat (i + 1 + z9h (Kk.take j))))
  (h4:ts 4= .ptr (B + 2) g2 0 0) (h9:ts 9= .ptr (B + 4) g4 0 0) (h10:ts 10= .ptr (B + 5) g5 0 0) (h64:ts 64= .bwd 325 kv)
  (hQ:∀ (dep:Nat) (u:Tip) (o6 o7:AObj) (clk':Nat),1≤dep→dep≤d + 1→K Gam B .skip ks ⟨ts,D++[.blk gP (P.map ePt) true false 0, .blk gV [.agg [z0l t, .ob (B + 0) gP 0 t.length]] false false 0, .blk g2 [.ptr (B + 1) gV 0 0] false false 0, .blk g3 [N] false false 0, .blk g4 [.agg [.int .i64 0, .int .i64 (dep:Int), .int .i64 ((i + 1 + z9h Kk:Nat):Int)]] false false 0, .blk g5 [.sl ((Kk.map (·.s)).map nat) u] false false 0,o6,o7,o8,o9],clk'⟩ Q):
  K Gam B (.rangeB (.tmp 64) 65 66 w9o w9p) ks ⟨ts,D++[.blk gP (P.map ePt) true false 0, .blk gV [.agg [z0l t, .ob (B + 0) gP 0 t.length]] false false 0, .blk g2 [.ptr (B + 1) gV 0 0] false false 0, .blk g3 [N] false false 0, .blk g4 [.agg [.int .i64 0, .int .i64 1, .int .i64 ((i + 1:Nat):Int)]] false false 0, .blk g5 [.sl [] .nil] false false 0,o6,o7,o8,o9],clk⟩ Q:=by
 refine k4o (f:=325) (n:=Kk.length) (v:=kv) (by simpa [AOpd.ev] using h64) hrow rfl (fun m h _=>∃ (dep:Nat) (u:Tip) (o6 o7:AObj),1≤dep∧dep≤d + 1∧h=D++[.blk gP (P.map ePt) true false 0, .blk gV [.agg [z0l t, .ob (B + 0) gP 0 t.length]] false false 0, .blk g2 [.ptr (B + 1) gV 0 0] false false 0, .blk g3 [N] false false 0, .blk g4 [.agg [.int .i64 0, .int .i64 (dep:Int), .int .i64 ((i + 1 + z9h (Kk.take (Kk.length - m)):Nat):Int)]] false false 0, .blk g5 [.sl (((Kk.take (Kk.length - m)).map (·.s)).map nat) u] false false 0,o6,o7,o8,o9]∧z8k B 7 o7 u 1) ?_ ?_ ?_
 ·refine⟨1, .nil,o6,o7,Nat.le_refl _,by omega, ?_, .inl rfl⟩
  rw[Nat.sub_self,List.take_zero]
  rfl
 ·rintro m h c Pq hm ⟨dep,u,o6,o7,hd1,hd2,rfl,hu⟩ hfin
  have hj:Kk.length - (m + 1) < Kk.length:=by omega
  have hjm:Kk.length - m=Kk.length - (m + 1) + 1:=by omega
  have hel:=helem (Kk.length - (m + 1)) P (.blk g3 [N] false false 0) (.blk g4 [.agg [.int .i64 0, .int .i64 (dep:Int), .int .i64 ((i + 1 + z9h (Kk.take (Kk.length - (m + 1))):Nat):Int)]] false false 0) (.blk g5 [.sl (((Kk.take (Kk.length - (m + 1))).map (·.s)).map nat) u] false false 0) o6 o7 o8 hj
  rw[show Kk.length - 1 - (Kk.length - (m + 1))=m by omega] at hel
  refine⟨_,hel, ?_⟩
  have hpo:=hPo (Kk.length - (m + 1)) Kk[Kk.length - (m + 1)] (by rw[List.getElem?_append_left hj];simp[hj])
  have htk:(Kk++G).take (Kk.length - (m + 1))=Kk.take (Kk.length - (m + 1)):=List.take_append_of_le_length (by omega)
  rw[htk] at hpo
  have hfd:=hKd _ (List.getElem_mem hj)
  have hls:=k1p hj
  have hss:=j6w hj
  rw[←hjm] at hls hss
  generalize Kk[Kk.length - (m + 1)]=f at hpo hfd hls hss
  generalize hst:i + 1 + z9h (Kk.take (Kk.length - (m + 1)))=st at hpo
  have hget:=x4u hpo
  dsimp only at hget
  have hix:∀ L,z1m (D++ .blk gP (P.map ePt) true false 0::L) 3 (.ob (B + 0) gP 0 t.length) (.int .i64 (st:Int))=some (.ptr (B + 0) gP st 0,D++ .blk gP (P.map ePt) true false 0::L):=fun L=>q7r hB hpo hPl
  have e1:IntKind.i64.wrap ((f.dep:Int) + 1)=((f.dep + 1:Nat):Int):=z0d (by omega) (by omega)
  have e2:(if ((f.dep + 1:Nat):Int) > (dep:Int) then ((f.dep + 1:Nat):Int) else (dep:Int))=((max dep (f.dep + 1):Nat):Int):=by split <;> omega
  simp only[go_sem,w9o,w9p,z1i,h4,h9,h10,hB,nat,hix,hget]
  rw[show [AV.int .i64 (f.s:Int)]=[f.s].map nat from rfl,z0j hB rfl hu z3y z3y (by simp only[List.length_map,List.length_singleton,List.length_take];omega)]
  have hst2:st + f.len=i + 1 + z9h (Kk.take (Kk.length - m)):=by omega
  simp only[go_sem,h4,h9,h10,hB,nat,hix,hget,e1,e2,←hss,hst2]
  exact⟨by simp[z1f,apart,z0i,z1d,z1h,AOp.isCall,hB],hfin _ ⟨max dep (f.dep + 1),_,_,_,by omega,by omega,rfl, .inr (.inr ⟨_,rfl,rfl⟩)⟩⟩
 ·rintro h c ⟨dep,u,o6,o7,hd1,hd2,rfl,hu⟩
  rw[Nat.sub_zero,List.take_length]
  exact hQ dep u o6 o7 c hd1 hd2
theorem j6x {D L:List AObj} {B gP i:Nat} {P:List Pt} {p q:Pt} (hB:D.length=B) (hi:P[i]? =some q):z8s (D++ .blk gP (P.map ePt) true false 0::L) 3 (.agg [.int .i64 (p.sort:Int), .int .i64 (p.depth:Int), .int .i64 (p.fin:Int)]) (.ptr (B + 0) gP i 0)=some (.undef,D++ .blk gP ((P.set i p).map ePt) true false 0::L):=by
 have hb:z2a (D++ .blk gP (P.map ePt) true false 0::L) (B + 0) gP=some (P.map ePt,true,false,0):=by rw[z6w hB];simp[z2a]
 have hp:∀ h:List AObj,pub h (.agg [.int .i64 (p.sort:Int), .int .i64 (p.depth:Int), .int .i64 (p.fin:Int)])=some (.agg [.int .i64 (p.sort:Int), .int .i64 (p.depth:Int), .int .i64 (p.fin:Int)],h):=fun h=>rfl
 have hg:(P.map ePt)[i]? =some (ePt q):=by rw[List.getElem?_map,hi];rfl
 rw[q0h,hb]
 simp only[hg,if_true,hp]
 rw[if_pos ⟨rfl,rfl,rfl,fun _=>⟨Nat.zero_le _,rfl⟩⟩]
 have:z9z (ePt q).cells 0 (AV.agg [.int .i64 (p.sort:Int), .int .i64 (p.depth:Int), .int .i64 (p.fin:Int)]).cells=some [.int .i64 (p.sort:Int), .int .i64 (p.depth:Int), .int .i64 (p.fin:Int)]:=rfl
 rw[this,Option.map_some,z5i hB,List.map_set]
 rfl
theorem k1s {D:List AObj} {B:Nat} {t:Term} {gP gV g2:Nat} {V:List Var} {n:Node} {ss:List Nat} {s d:Nat} {ksT pre post:Term} {Kk G:List Tr} {st:St} {ks:List Kf} {Q:Post} (hB:D.length=B) (hn:NodeOk V n ss s ksT) (hV:∀ v∈V,v∈U) (hk:n.kids=ss.length) (ht:t=pre++n::(ksT++post)) (hKs:Kk.map (·.s)=ss) (hKd:∀ f∈Kk,f.dep≤d) (hd:d≤1000) (hN:(Kk++G).length≤2 ^ 20) (htl:t.length≤2 ^ 20)
  (hst:j3x D B t gP gV g2 (pre.length + 1) (Kk++G) st)
  (hQ:∀ st' dep,dep≤d + 1→j3x D B t gP gV g2 pre.length (⟨s,1 + z9h Kk,dep⟩::G) st'→K Gam B (.loop q5c) ks st' Q):K Gam B (.loop q5c) ks st Q:=by
 obtain⟨ts,h,clk⟩:=st
 obtain⟨P,o3,o4,o5,o6,o7,o8,o9,hPl,hPo,h0,h4,h6,hr,rfl⟩:=hst
 dsimp only at h0 h4 h6 hr
 generalize hip:pre.length=i at *
 have hKlen:Kk.length=n.kids:=by rw[hk,←hKs,List.length_map]
 have hNl:(Kk++G).length=n.kids + G.length:=by rw[List.length_append,hKlen]
 have hss:ss.length≤2 ^ 20:=by omega
 have hti:t[i]? =some n:=by
  rw[ht,List.getElem?_append_right (by omega),show i - pre.length=0 by omega]
  rfl
 have hilt:i < t.length:=by
  rw[List.getElem?_eq_some_iff] at hti
  exact hti.1
 obtain⟨hlen,kv,rv,hkv,hrv,hrow,helem,happ⟩:=j0s (t:=t) (gP:=gP) (gV:=gV) (g2:=g2) hB hr hN
 simp only[z7u] at hkv hrv helem happ⊢
 generalize h5:ts 5=r5 at *
 have e0:((i + 1:Nat):Int) - 1=(i:Int):=by omega
 rw[e0] at h6
 have e1:decide ((0:Int)≤(i:Int))=true:=by rw[decide_eq_true_iff];omega
 have e2:decide ((n.kids:Int) < 0)=false:=by rw[decide_eq_false_iff_not];omega
 have e3:decide (((Kk++G).length:Int) < (n.kids:Int))=false:=by rw[decide_eq_false_iff_not];omega
 have e4:IntKind.i64.wrap (((Kk++G).length:Int) - (n.kids:Int))=(G.length:Int):=by rw[z0d (by omega) (by omega)];omega
 have e5:IntKind.i64.wrap ((i:Int) + 1)=((i + 1:Nat):Int):=z0d (by omega) (by omega)
 have e6:IntKind.i64.wrap ((i:Int) - 1)=(i:Int) - 1:=z0d (by omega) (by omega)
 have h249:Pure Gam 216 [.agg [.int .i64 (n.op:Int), .int .i64 (n.sort:Int), .str n.name, .str n.num, .int .i64 (n.kids:Int)]] (.bool true):=v7y hn hV
 have h250:Pure Gam 217 [.int .i64 (n.op:Int), .int .i64 (n.kids:Int)] (.bool true):=v7z hn
 rw[z0l] at h0
 refine z3f ?_
 simp only[go_sem,q5c,h0,h4,h5,h6,hB,e1,z3a hti,e2,hlen,e3,z0a h249,z0a h250,Bool.not_true,e4,e5,hkv,w9n hrow]
 refine k1r (P:=P) hB hPl hPo hKd hd (by omega) hrow helem (by simp[z0b,h4]) (by simp[z0b]) (by simp[z0b]) (by simp[z0b]) ?_
 intro dep u o6 o7 clk' hd1 hd2
 have h252:∀ u,Pure Gam 218 [.agg [.int .i64 (n.op:Int), .int .i64 (n.sort:Int), .str n.name, .str n.num, .int .i64 (n.kids:Int)], .sl (ss.map nat) u] (.int .i64 (s:Int)):=fun u=>v8a hn hss
 have hs:=hn.pos hV
 have e7:decide ((s:Int)=0)=false:=by rw[decide_eq_false_iff_not];omega
 obtain⟨q,hq⟩:∃ q,P[i]? =some q:=⟨P[i],by simp[hPl,hilt]⟩
 have happ':=fun P o3 o4 o5 o6 o7 g8 gen=>happ ⟨s,1 + z9h Kk,dep⟩ P o3 o4 o5 o6 o7 g8 gen rfl
 have hPo':=PartsOk.node (s:=s) (dep:=dep) hPo (by omega)
 have hst:=fun L=>j6x (L:=L) (B:=B) (gP:=gP) (p:=⟨s,dep,i + 1 + z9h Kk⟩) hB hq
 simp only at hst
 simp only[nat] at happ'
 have fin:∀ (ts':Tmps) (P':List Pt) (o3 o4 o5 o6 o7 o8:AObj) (gen clk':Nat),P'=P.set i ⟨s,dep,i + 1 + z9h Kk⟩→ts' 0= .sl (t.map eNode) .no→ts' 4= .ptr (B + 2) g2 0 0→ts' 5= .ob (B + 9) gen 0 (G.length + 1)→ts' 6= .int .i64 ((i:Int) - 1)→
   K Gam B (.loop q5c) ks ⟨ts',z7u D B t gP gV g2 P' o3 o4 o5 o6 o7 o8 (.blk gen ((z4i i (⟨s,1 + z9h Kk,dep⟩::G)).reverse.map nat) true true 0),clk'⟩ Q:=by
  intro ts' P' o3 o4 o5 o6 o7 o8 gen clk' hP' q0 q4 q5 q6
  refine hQ _ dep hd2 ⟨P',_,_,_,_,_,_,_,by rw[hP',List.length_set];exact hPl, ?_,q0,q4,q6, .inr ⟨by simp,gen,q5,rfl⟩,rfl⟩
  rw[hP',Nat.add_assoc]
  exact hPo'
 by_cases h15:n.op=15
 ·obtain⟨m,r,hmr,hm3⟩:=hn.mul_num h15
  have ht1:t[i + 1]? =some m:=by
   rw[ht,List.getElem?_append_right (by omega),show i + 1 - pre.length=1 by omega,hmr]
   rfl
  have f1:decide ((n.op:Int)=15)=true:=by rw[decide_eq_true_iff];omega
  have f2:decide ((m.op:Int)=3)=true:=by rw[decide_eq_true_iff];omega
  simp only[go_sem,h0,h4,h5,h6,hB,hKs,z0a (h252 _),e7,f1,e5,z3a ht1,f2,Bool.not_true,q7r hB hq hPl,hst,hlen,e4,hrv,happ',e6]
  exact fin _ _ _ _ _ _ _ _ _ _ rfl (by simp[z0b,h0]) (by simp[z0b,h4]) (by simp[z0b]) (by simp[z0b])
 ·have f1:decide ((n.op:Int)=15)=false:=by rw[decide_eq_false_iff_not];omega
  simp only[go_sem,h0,h4,h5,h6,hB,hKs,z0a (h252 _),e7,f1,q7r hB hq hPl,hst,hlen,e4,hrv,happ',e6]
  exact fin _ _ _ _ _ _ _ _ _ _ rfl (by simp[z0b,h0]) (by simp[z0b,h4]) (by simp[z0b]) (by simp[z0b])
end
section
variable {U:List Var} [UOk U]
theorem j0t {D:List AObj} {B:Nat} {t:Term} {gP gV g2:Nat} {V:List Var} {ks:List Kf} {Q:Post} (hB:D.length=B) (hV:∀ v∈V,v∈U) (htl:t.length≤2 ^ 19) {ss:List Nat} {d:Nat} {u:Term} (h:WF V ss d u):∀ {pre post:Term} {G:List Tr} {st:St},d≤1000→t=pre++(u++post)→G.length≤post.length→j3x D B t gP gV g2 (pre.length + u.length) G st→
  (∀ st' Fu,Fu.map (·.s)=ss→z9h Fu=u.length→Fu.length≤u.length→(∀ f∈Fu,f.dep≤d)→j3x D B t gP gV g2 pre.length (Fu++G) st'→K Gam B (.loop q5c) ks st' Q)→K Gam B (.loop q5c) ks st Q:=by
 induction h with
 | nil=>
   intro pre post G st _ _ _ hst hQ
   exact hQ st [] rfl rfl (by simp) (by simp) (by simpa using hst)
 | @cons n ss ks' s d ss' rest h1 h2 h3 h4 ih1 ih2=>
   intro pre post G st hd ht hG hst hQ
   have e1:t=(pre++n::ks')++(rest++post):=by rw[ht];simp
   refine ih2 (pre:=pre++n::ks') (post:=post) hd e1 hG (by
    have e:pre.length + (n::(ks'++rest)).length=(pre++n::ks').length + rest.length:=by simp;omega
    rw[←e]
    exact hst) fun st1 Fr hr1 hr2 hr2' hr3 hr4=> ?_
   have e2:t=(pre++[n])++(ks'++(rest++post)):=by rw[ht];simp
   have hlen:=congrArg List.length ht
   simp only[List.length_append,List.length_cons] at hlen
   refine ih1 (pre:=pre++[n]) (post:=rest++post) (G:=Fr++G) (by omega) e2 (by simp only[List.length_append];omega) (by
    have e:(pre++n::ks').length=(pre++[n]).length + ks'.length:=by simp;omega
    rw[←e]
    exact hr4) fun st2 Fk hk1 hk2 hk2' hk3 hk4=> ?_
   refine k1s (t:=t) (pre:=pre) (post:=rest++post) (Kk:=Fk) (G:=Fr++G) hB h2 hV h3 (by rw[ht];simp) hk1 hk3 (by omega) (by simp only[List.length_append];omega) (by omega) (by simpa using hk4) fun st3 dep hd3 hst3=> ?_
   refine hQ st3 (⟨s,1 + z9h Fk,dep⟩::Fr) (by simp[hr1]) ?_ ?_ ?_ (by simpa using hst3)
   ·rw[q5f,hk2,hr2];simp;omega
   ·simp only[List.length_cons,List.length_append];omega
   ·intro f hf
    rw[List.mem_cons] at hf
    rcases hf with rfl | hf
    ·exact hd3
    ·exact hr3 f hf
theorem y8q {V:List Var} {s d:Nat} {t:Term} {u:Tip} {h:List AObj} {clk:Nat} {Q:AV→List AObj→Nat→Prop} (ht:WF V [s] d t) (hV:∀ v∈V,v∈U) (hl:t.length≤20000) (hd:d≤1000)
  (hQ:∀ gP gV g2 P dep o3 o4 o5 o6 o7 o8 o9 c,P.length=t.length→P[0]? =some ⟨s,dep,t.length⟩→dep≤d→Q (.tup [.ptr (h.length + 1) gV 0 0, .bool true]) (z7u h h.length t gP gV g2 P o3 o4 o5 o6 o7 o8 o9) c):WC Gam 219 [.sl (t.map eNode) u] h clk Q:=by
 refine q9z rfl y7g rfl rfl rfl (az:=[z0l t]) rfl (by simp[idsL,z2q]) fun D B R hB hBh hR=> ?_
 have hms:∀ h s g,msV h s g (.agg [.int .i64 0, .int .i64 0, .int .i64 0]) 24 (.int .i64 (t.length:Int)) (.int .i64 (t.length:Int))=some (.ob s g 0 t.length,h.set s (.blk g (List.replicate t.length (.agg [.int .i64 0, .int .i64 0, .int .i64 0])) true false 0)):=fun h s g=>q4y rfl (by omega)
 have hrep:List.replicate t.length (AV.agg [.int .i64 0, .int .i64 0, .int .i64 0])=(List.replicate t.length (⟨0,0,0⟩:Pt)).map ePt:=by rw[List.map_replicate];rfl
 have e0:IntKind.i64.wrap ((t.length:Int) - 1)=(t.length:Int) - 1:=z0d (by omega) (by omega)
 simp only[go_sem,w8f,hB,z0l,List.length_map,hms,hrep,e0]
 refine j0t (pre:=[]) (post:=[]) (G:=[]) hB hV (by omega) ht hd (by simp) (by simp) ⟨List.replicate t.length ⟨0,0,0⟩,_,_,_,_,_,_,_,by simp,PartsOk.nil,by simp[z0b,z2w,z0l],by simp[z0b],by simp[z0b], .inl ⟨rfl,by simp[z0b]⟩,rfl⟩ ?_
 rintro ⟨ts,h',clk'⟩ Fu hF1 hF2 hF3 hF4 ⟨P,o3,o4,o5,o6,o7,o8,o9,hPl,hPo,h0,h4,h6,hr,rfl⟩
 dsimp only at h0 h4 h6 hr
 obtain⟨f,rfl⟩:∃ f,Fu=[f]:=by
  match Fu,hF1 with
  | [f],_=>exact⟨f,rfl⟩
 have hfs:f.s=s:=by simpa using hF1
 have hfl:f.len=t.length:=by simpa [z9h] using hF2
 rcases hr with ⟨hbad,_⟩ | ⟨_,g,h5,ho9⟩
 ·simp at hbad
 have hp0:=hPo 0 f (by simp)
 rw[hfs,hfl] at hp0
 have hp0':P[0]? =some ⟨s,f.dep,t.length⟩:=by simpa [z9h] using hp0
 have e1:decide ((0:Int)≤ -1)=false:=by decide
 have h6':ts 6= .int .i64 (-1):=by rw[h6];rfl
 refine z3f ?_
 simp only[go_sem,q5c,h6',e1,h4,h5,z7u,hB,z0l,decide_true]
 rw[q5h rfl]
 refine hR _ _ ⟨B + 1,by simp[z1k,AV.cv,cvL,AV.ids,idsL],by omega⟩ fun c=> ?_
 have:=fun gP gV g2=>hQ gP gV g2 P f.dep o3 o4 o5 o6 o7 o8 o9 c hPl hp0' (hF4 f (by simp))
 simp only[←hBh,z7u,z0l] at this
 exact this _ _ _
end
end Go.Proofs.YtahdahokpjigiaaGreatDoor.Am
