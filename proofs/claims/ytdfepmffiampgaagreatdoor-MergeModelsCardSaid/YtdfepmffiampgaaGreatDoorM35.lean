/- Walking: rows are compared by a function Walking: clauses are compared after a predicate was renamed Walking: the reference's copies Walking: predicates match Walking: terms are compared Walking: pred -/
import Derived.Test.YtdfepmffiampgaaGreatDoorM34
set_option linter.all false
namespace Go.Proofs.YtdfepmffiampgaaGreatDoor.Am
open Go
set_option maxRecDepth 100000
section
open Sh
theorem Reads.pure {f:Nat} {args:List AV} {v:AV} (hr:Reads [] f args v):Pure Gam f args v:=fun h clk=>by
 obtain⟨h1,h2⟩:=hr h clk Has.nil
 refine⟨h1,List.eq_nil_iff_forall_not_mem.2 fun x hx=> ?_⟩
 simpa using h2 x hx
section
variable {α β:Type} {xs:List α} {ys:List β} {P:α→β→Bool} {i:Nat}
theorem v4m (hx:i < xs.length) (hy:i < ys.length):(xs.zip ys).take (i + 1)=(xs.zip ys).take i++[(xs[i],ys[i])]:=by
 have hz:i < (xs.zip ys).length:=by rw[List.length_zip];omega
 rw[List.take_succ_eq_append_getElem hz,List.getElem_zip]
theorem x9s (hx:i < xs.length) (hy:i < ys.length) (h:P xs[i] ys[i]=false):((xs.zip ys).all fun p=>P p.1 p.2)=false:=by
 have hz:i < (xs.zip ys).length:=by rw[List.length_zip];omega
 rw[List.all_eq_false]
 exact⟨(xs[i],ys[i]),by rw[←List.getElem_zip (h:=hz)];exact List.getElem_mem hz,by rw[h];simp⟩
end
theorem x5y {α γ:Type} [DecidableEq γ]:∀ {xs ys:List α} {g:α→γ},(decide (xs.length=ys.length) && (xs.zip ys).all fun p=>decide (g p.1=g p.2))=decide (xs.map g=ys.map g)
 | [],[],_=>by simp
 | [],_::_,_=>by simp
 | _::_,[],_=>by simp
 | x::xs,y::ys,g=>by
   have ih:=x5y (xs:=xs) (ys:=ys) (g:=g)
   simp only[List.length_cons,Nat.add_right_cancel_iff,List.zip_cons_cons,List.all_cons,List.map_cons,List.cons.injEq,Bool.decide_and]
   rw[←ih]
   cases decide (g x=g y) <;> simp
theorem y4q {α β:Type} {enc:α→AV} {enc':β→AV} {f c:Nat} {xs:List α} {ys:List β} {S:List (Nat×AObj)} {cap:List AV} {P:α→β→Bool} {t u:Tip} (hext:Gam.ext f=none) (hfn:Gam.fn f=some w9k) (hE:∀ x,(enc x).cells.length=1) (hE':∀ x,(enc' x).cells.length=1) (hld:∀ x h,z8j h none (.iptr (enc x).cells 0)=some (enc x,h)) (hld':∀ x h,z8j h none (.iptr (enc' x).cells 0)=some (enc' x,h)) (hid:∀ x,(enc x).ids=[]) (hid':∀ x,(enc' x).ids=[]) (hl:xs.length≤2 ^ 20) (hC:Cov S (idsL cap)) (hP:∀ x∈xs,∀ y∈ys,Reads S c (enc x::enc' y::cap) (.bool (P x y))):
  Reads S f [.sl (xs.map enc) t, .sl (ys.map enc') u, .fn c cap] (.bool (decide (xs.length=ys.length) && (xs.zip ys).all fun p=>P p.1 p.2)):=by
 have hC':Cov S (idsL [.sl (xs.map enc) .no, .sl (ys.map enc') .no, .fn c cap]):=by
  have:idsL [.sl (xs.map enc) .no, .sl (ys.map enc') .no, .fn c cap]=idsL cap:=by simp[idsL,AV.ids,z0b hid,z0b hid']
  rw[this];exact hC
 refine Reads.of hext hfn rfl rfl rfl (az:=[.sl (xs.map enc) .no, .sl (ys.map enc') .no, .fn c cap]) rfl hC' fun D B clk T hB hS hlt hT=> ?_
 cases hlen:decide (xs.length=ys.length) with
 | true=>
   have hlen':xs.length=ys.length:=of_decide_eq_true hlen
   rw[hlen,Bool.true_and] at hT
   simp only[go_sem,w9k,List.length_map,z5r,hlen,Bool.not_true]
   refine z2y xs.length (by omega) (fun i q=>(∀ p∈(xs.zip ys).take i,P p.1 p.2=true)∧q.ts 1= .sl (ys.map enc') .no∧q.ts 2= .fn c cap∧q.ts 15= .sl (xs.map enc) .no∧q.ts 16= .int .i64 (xs.length:Int)∧q.ts 17= .int .i64 (i:Int)∧q.h=D++[]) ⟨by simp,rfl,rfl,rfl,rfl,rfl,rfl⟩ ?_ ?_
   ·rintro i hi f1 f2 ts h clk Q ⟨hp,q1,q2,q15,q16,q17,rfl⟩ hnx he hr
    dsimp only at q1 q2 q15 q16 q17
    have hi2:i < ys.length:=by omega
    have hx:=fun h=>q5x (enc:=enc) (t:= .no) (k:= .i64) (h:=h) hE hi
    have hy:=fun h=>q5x (enc:=enc') (t:= .no) (k:= .i64) (h:=h) hE' hi2
    have hc:=hP _ (List.getElem_mem hi) _ (List.getElem_mem hi2)
    cases hb:P xs[i] ys[i] with
    | true=>
      rw[hb] at hc
      simp only[go_sem,k1o,q1,q2,q15,q16,q17,f1,f2,hx,hy,hld,hld',z1m hc hS.app,Bool.not_true]
      refine hnx _ ⟨fun p hp'=> ?_,q1,q2,q15,q16,rfl,rfl⟩
      rw[v4m hi hi2,List.mem_append,List.mem_singleton] at hp'
      rcases hp' with hp' | rfl
      ·exact hp p hp'
      ·exact hb
    | false=>
      rw[hb] at hc
      simp only[go_sem,k1o,q1,q2,q15,q16,q17,f1,f2,hx,hy,hld,hld',z1m hc hS.app,Bool.not_false]
      refine hr _ ?_
      rw[x9s hi hi2 hb] at hT
      simp only[go_sem,]
      rw[z0d]
      exact hT _ hS.app
   ·rintro f1 ts h clk Q ⟨hp,q1,q2,q15,q16,q17,rfl⟩ he hr
    dsimp only at q1 q2 q15 q16 q17
    simp only[go_sem,k1o,q1,q2,q15,q16,q17,f1]
    refine he _ _ ?_
    rw[List.take_of_length_le (by rw[List.length_zip];omega)] at hp
    rw[List.all_eq_true.2 hp] at hT
    simp only[go_sem,]
    rw[z0d]
    exact hT _ hS.app
 | false=>
   rw[hlen,Bool.false_and] at hT
   simp only[go_sem,w9k,List.length_map,z5r,hlen,Bool.not_false]
   rw[z0d]
   exact hT _ hS.app
theorem k9u {c:Nat} {xs ys:List App} {S:List (Nat×AObj)} {cap:List AV} {P:App→App→Bool} {t u:Tip} (hl:xs.length≤2 ^ 20) (hC:Cov S (idsL cap)) (hP:∀ x∈xs,∀ y∈ys,Reads S c (z1p x::z1p y::cap) (.bool (P x y))):
  Reads S 213 [.sl (xs.map z1p) t, .sl (ys.map z1p) u, .fn c cap] (.bool (decide (xs.length=ys.length) && (xs.zip ys).all fun p=>P p.1 p.2)):=by
 have hC':Cov S (idsL [.sl (xs.map z1p) .no, .sl (ys.map z1p) .no, .fn c cap]):=by
  have:idsL [.sl (xs.map z1p) .no, .sl (ys.map z1p) .no, .fn c cap]=idsL cap:=by simp[idsL,AV.ids,z0b z4f]
  rw[this];exact hC
 refine Reads.of rfl u1f rfl rfl rfl (az:=[.sl (xs.map z1p) .no, .sl (ys.map z1p) .no, .fn c cap]) rfl hC' fun D B clk T hB hS hlt hT=> ?_
 cases hlen:decide (xs.length=ys.length) with
 | true=>
   have hlen':xs.length=ys.length:=of_decide_eq_true hlen
   rw[hlen,Bool.true_and] at hT
   simp only[go_sem,v9m,hB,List.length_map,z5r,hlen,Bool.not_true]
   refine z2y xs.length (by omega) (fun i q=>∃ o0 o1,(∀ p∈(xs.zip ys).take i,P p.1 p.2=true)∧q.ts 1= .sl (ys.map z1p) .no∧q.ts 2= .fn c cap∧q.ts 15= .sl (xs.map z1p) .no∧q.ts 16= .int .i64 (xs.length:Int)∧q.ts 17= .int .i64 (i:Int)∧q.h=D++[o0,o1]) ⟨_,_,by simp,rfl,rfl,rfl,rfl,rfl,rfl⟩ ?_ ?_
   ·rintro i hi f1 f2 ts h clk Q ⟨o0,o1,hp,q1,q2,q15,q16,q17,rfl⟩ hnx he hr
    dsimp only at q1 q2 q15 q16 q17
    have hi2:i < ys.length:=by omega
    have hx:=fun h=>q2p (t:= .no) (k:= .i64) (h:=h) hi
    have hy:=fun h=>q2p (t:= .no) (k:= .i64) (h:=h) hi2
    have hc:=hP _ (List.getElem_mem hi) _ (List.getElem_mem hi2)
    simp only[z1p] at hc
    cases hb:P xs[i] ys[i] with
    | true=>
      rw[hb] at hc
      simp only[go_sem,x8v,hB,q1,q2,q15,q16,q17,f1,f2,hx,hy,z1m hc hS.app,Bool.not_true]
      refine hnx _ ⟨_,_,fun p hp'=> ?_,q1,q2,q15,q16,rfl,rfl⟩
      rw[v4m hi hi2,List.mem_append,List.mem_singleton] at hp'
      rcases hp' with hp' | rfl
      ·exact hp p hp'
      ·exact hb
    | false=>
      rw[hb] at hc
      simp only[go_sem,x8v,hB,q1,q2,q15,q16,q17,f1,f2,hx,hy,z1m hc hS.app,Bool.not_false]
      refine hr _ ?_
      rw[x9s hi hi2 hb] at hT
      simp only[go_sem,]
      rw[z0d]
      exact hT _ hS.app
   ·rintro f1 ts h clk Q ⟨o0,o1,hp,q1,q2,q15,q16,q17,rfl⟩ he hr
    dsimp only at q1 q2 q15 q16 q17
    simp only[go_sem,x8v,q1,q2,q15,q16,q17,f1]
    refine he _ _ ?_
    rw[List.take_of_length_le (by rw[List.length_zip];omega)] at hp
    rw[List.all_eq_true.2 hp] at hT
    simp only[go_sem,]
    rw[z0d]
    exact hT _ hS.app
 | false=>
   rw[hlen,Bool.false_and] at hT
   simp only[go_sem,v9m,hB,List.length_map,z5r,hlen,Bool.not_false]
   rw[z0d]
   exact hT _ hS.app
end
instance:DecidableEq App:=fun a b=>decidable_of_iff (a.pred=b.pred∧a.args=b.args) (by cases a;cases b;simp)
instance:DecidableEq Clause:=fun a b=>decidable_of_iff (a.vars=b.vars∧a.guard=b.guard∧a.head=b.head∧a.body=b.body) (by cases a;cases b;simp only[Clause.mk.injEq];exact⟨fun ⟨h1,h2,h3,h4⟩=>⟨h1,h4,h2,h3⟩,fun ⟨h1,h2,h3,h4⟩=>⟨h1,h3,h4,h2⟩⟩)
def z7p (p q:List Nat) (a:App):App:=⟨if a.pred=p then q else a.pred,a.args⟩
def q0q (p q:List Nat) (c:Clause):Clause:=⟨c.vars,c.body.map (z7p p q),c.guard,z7p p q c.head⟩
def q4o (p q:List Nat):AV:= .agg [.str p, .str q]
theorem w3g {p q:List Nat} {c d:Clause}:decide (q0q p q c=q0q p q d)=(decide (c.vars=d.vars) && (decide (c.guard=d.guard) && (decide (z7p p q c.head=z7p p q d.head) && decide (c.body.map (z7p p q)=d.body.map (z7p p q))))):=by
 simp only[q0q,Clause.mk.injEq]
 by_cases h1:c.vars=d.vars <;> by_cases h2:c.guard=d.guard <;> by_cases h3:z7p p q c.head=z7p p q d.head <;> by_cases h4:c.body.map (z7p p q)=d.body.map (z7p p q) <;> simp[h1,h2,h3,h4]
def SmA (a:App):Prop:=a.args.length≤20000∧∀ t∈a.args,t.length≤20000
theorem x9t {p q:List Nat} {a:App}:Pure Gam 62 [q4o p q,z1p a] (z1p (z7p p q a)):=by
 refine Pure.of rfl g1x rfl rfl rfl (az:=[q4o p q,z1p a]) rfl (by simp[idsL,AV.ids,q4o,z4f]) fun D B clk T hB hT=> ?_
 cases h:decide (a.pred=p) with
 | true=>
   simp only[go_sem,u1g,hB,q4o,z1p,h,z0m,z0l,z0g]
   rw[z2q rfl (by simp[AV.cv,cvL,AV.ids,idsL,z0b z1f])]
   simp only[z7p,if_pos (of_decide_eq_true h),z1p] at hT
   exact hT _
 | false=>
   simp only[go_sem,u1g,hB,q4o,z1p,h,z0m,z0l,z0g]
   rw[z2q rfl (by simp[AV.cv,cvL,AV.ids,idsL,z0b z1f])]
   simp only[z7p,if_neg (of_decide_eq_false h),z1p] at hT
   exact hT _
theorem w3h {t u:Term} (hl:t.length≤20000) (hl2:u.length≤20000):Pure Gam 250 [z0i t,z0i u] (.bool (decide (t=u))):=by
 have p1:=k4f (xs:=t) (ys:=u) (u:= .no) (v:= .no) (by omega) (by omega)
 refine Pure.of rfl u1e rfl rfl rfl (az:=[z0i t,z0i u]) rfl (by simp[idsL,z1f]) fun D B clk T hB hT=> ?_
 simp only[go_sem,w9n,z0i,z0a p1]
 rw[z0d]
 exact hT _
theorem k4g {a b:App} (ha:SmA a) (hb:SmA b):Pure Gam 212 [z1p a,z1p b] (.bool (decide (a=b))):=by
 have p1:Pure Gam 249 [.sl (a.args.map z0i) .no, .sl (b.args.map z0i) .no, .fn 250 []] (.bool (decide (a.args=b.args))):=by
  have:=(y4q (enc:=z0i) (enc':=z0i) (c:=250) (cap:=[]) (P:=fun t u=>decide (t=u)) (t:= .no) (u:= .no) (xs:=a.args) (ys:=b.args) rfl u5r (fun _=>rfl) (fun _=>rfl) (fun _ _=>rfl) (fun _ _=>rfl) z1f z1f (by have:=ha.1;omega) Cov.none (fun t ht u hu=>(w3h (ha.2 t ht) (hb.2 u hu)).reads)).pure
  have e:=x5y (xs:=a.args) (ys:=b.args) (g:=id)
  rw[List.map_id,List.map_id] at e
  rw[←e]
  exact this
 have e0:decide (a=b)=(decide (a.pred=b.pred) && decide (a.args=b.args)):=by cases a;cases b;simp
 rw[e0]
 refine Pure.of rfl u1d rfl rfl rfl (az:=[z1p a,z1p b]) rfl (by simp[idsL,z4f]) fun D B clk T hB hT=> ?_
 cases h:decide (a.pred=b.pred) with
 | true=>
   rw[h] at hT
   simp only[go_sem,v9l,hB,z1p,h,z0a p1]
   rw[z0d]
   exact hT _
 | false=>
   rw[h] at hT
   simp only[go_sem,v9l,hB,z1p,h]
   rw[z0d]
   exact hT _
theorem j5o {p q:List Nat} {a:App} (h:SmA a):SmA (z7p p q a):=h
theorem k9v {s g:Nat} {p q:List Nat} {a b:App} (ha:SmA a) (hb:SmA b):Reads [(s, .blk g [q4o p q] false false 0)] 214 [z1p a,z1p b, .ptr s g 0 0] (.bool (decide (z7p p q a=z7p p q b))):=by
 have p1:=x9t (p:=p) (q:=q) (a:=a)
 have p2:=x9t (p:=p) (q:=q) (a:=b)
 have p3:=k4g (j5o (p:=p) (q:=q) ha) (j5o (p:=p) (q:=q) hb)
 refine Reads.of rfl u1c rfl rfl rfl (az:=[z1p a,z1p b, .ptr s g 0 0]) rfl (by simpa [idsL,AV.ids,z4f] using Cov.one (by simp[AObj.ids,idsL,q4o,AV.ids])) fun D B clk T hB hS hlt hT=> ?_
 have hs:s < B:=hlt (s,_) List.mem_cons_self
 have hD:D[s]? =some (.blk g [q4o p q] false false 0):=hS (s,_) List.mem_cons_self
 have hs2:s < B + 2:=by omega
 have hbl:∀ L,z1s (D++L) s g=some ([q4o p q],false,false,0):=fun L=>by rw[z3p hB hs,z2g hD]
 simp only[z1p,q4o] at p1 p2 p3 hbl
 simp only[go_sem,w9m,hB,z1p,z0y,hbl,z0a p1,z0a p2,z0a p3]
 refine⟨by simp[z0v,apart,z0h,z0s,z0w,AOp.isCall,hB,AV.ids,idsL,z0b z1f,hs2], ?_⟩
 rw[z0d]
 exact hT _ hS.app
theorem y4r {p q:List Nat} {c d:Clause} (hc:CmpC c) (hd:CmpC d):Pure Gam 152 [q4o p q,z0e c,z0e d] (.bool (decide (q0q p q c=q0q p q d))):=by
 have p1:=w3f (xs:=c.vars) (ys:=d.vars) (u:= .no) (v:= .no) (by have:=hc.vars;omega) (by have:=hd.vars;omega)
 have p2:=k4f (xs:=c.guard) (ys:=d.guard) (u:= .no) (v:= .no) (by have:=hc.guard;omega) (by have:=hd.guard;omega)
 have p3:=x9t (p:=p) (q:=q) (a:=c.head)
 have p4:=x9t (p:=p) (q:=q) (a:=d.head)
 have p5:=k4g (j5o (p:=p) (q:=q) hc.head) (j5o (p:=p) (q:=q) hd.head)
 have p6:∀ s g,Reads [(s, .blk g [q4o p q] false false 0)] 213 [.sl (c.body.map z1p) .no, .sl (d.body.map z1p) .no, .fn 214 [.ptr s g 0 0]] (.bool (decide (c.body.map (z7p p q)=d.body.map (z7p p q)))):=fun s g=>by
  rw[←x5y]
  exact k9u (P:=fun a b=>decide (z7p p q a=z7p p q b)) (by have:=hc.body;omega) (by simpa [idsL,AV.ids] using Cov.one (by simp[AObj.ids,idsL,q4o,AV.ids])) fun a ha b hb=>k9v (hc.atoms a ha) (hd.atoms b hb)
 rw[w3g]
 simp only[z1p,q4o] at p3 p4 p5 p6
 have hf:∀ s g D L k,D.length=k→s=k + 0→Has [(s, .blk g [AV.agg [.str p, .str q]] false false 0)] (D++ .blk g [AV.agg [.str p, .str q]] false false 0::L):=fun s g D L k hk hs=>by
  refine Has.cons ?_ Has.nil
  subst hs hk
  show (D++_::L)[D.length + 0]? =_
  rw[z2v rfl]
  rfl
 refine Pure.of rfl g1w rfl rfl rfl (az:=[q4o p q,z0e c,z0e d]) rfl (by simp[idsL,AV.ids,q4o,z1j]) fun D B clk T hB hT=> ?_
 cases h1:decide (c.vars=d.vars) with
 | false=>
   rw[h1] at p1 hT
   simp only[go_sem,w9l,hB,q4o,z0e,z0i,z0y,z0a p1]
   refine⟨by simp[z0v,apart,z0h,z0s,z0w,AOp.isCall,hB,AV.ids,idsL,z0b z1f,z0b z1k], ?_⟩
   rw[z0d]
   exact hT _
 | true=>
   cases h2:decide (c.guard=d.guard) with
   | false=>
     rw[h1] at p1 hT
     rw[h2] at p2 hT
     simp only[go_sem,w9l,hB,q4o,z0e,z0i,z0y,z0a p1,z0a p2]
     refine⟨by simp[z0v,apart,z0h,z0s,z0w,AOp.isCall,hB,AV.ids,idsL,z0b z1f,z0b z1k], ?_⟩
     rw[z0d]
     exact hT _
   | true=>
     cases h3:decide (z7p p q c.head=z7p p q d.head) with
     | false=>
       rw[h1] at p1 hT
       rw[h2] at p2 hT
       rw[h3] at p5 hT
       simp only[go_sem,w9l,hB,q4o,z0e,z0i,z0y,z0a p1,z0a p2,z0a p3,z0a p4,z0a p5]
       refine⟨by simp[z0v,apart,z0h,z0s,z0w,AOp.isCall,hB,AV.ids,idsL,z0b z1f,z0b z1k], ?_⟩
       rw[z0d]
       exact hT _
     | true=>
       rw[h1] at p1 hT
       rw[h2] at p2 hT
       rw[h3] at p5 hT
       simp only[go_sem,w9l,hB,q4o,z0e,z0i,z0y,z0a p1,z0a p2,z0a p3,z0a p4,z0a p5]
       refine z6i (p6 _ _) (hf _ _ _ _ _ hB rfl) ?_
       simp only[go_sem,hB]
       refine⟨by simp[z0v,apart,z0h,z0s,z0w,AOp.isCall,hB,AV.ids,idsL,z0b z1f,z0b z1k], ?_⟩
       rw[z0d]
       exact hT _
theorem append_nil {D L:List AObj} {B k esz b gen:Nat} {ys:List AV} {u:Tip} {o:AObj} (hB:D.length=B) (ho:L[k]? =some o) (hy:z0o esz ys=true) (hl:ys.length * (b + 1)≤2 ^ 46):
  z0n (D++L) (B + k) gen esz b false (.sl [] .nil) (.sl ys u)=some (.sl ys (.at (B + k) gen),D++L.set k (.tip gen esz)):=
 z0k (xs:=[]) hB ho (.inl rfl) rfl hy (by simpa using hl)
theorem w3i {l:List Term} {u:Tip} (hl:l.length≤2 ^ 20) (hts:∀ t∈l,t.length≤2 ^ 20):Pure Gam 220 [.sl (l.map z0i) u] (.sl (l.map z0i) .no):=by
 refine Pure.of rfl u1m rfl rfl rfl (az:=[.sl (l.map z0i) .no]) rfl (by simp[idsL,AV.ids,z0b z1f]) fun D B clk T hB hT=> ?_
 simp only[go_sem,w9r,List.length_map]
 refine z2y l.length (by omega) (fun i q=>∃ (t:Tip) (a b o:AObj),q.ts 0= .sl (l.map z0i) .no∧q.ts 3= .sl ((l.take i).map z0i) t∧q.ts 4= .int .i64 (i:Int)∧q.h=D++[a,b,o]∧z7x B 2 o t 1) ⟨.nil,_,_,_,rfl,rfl,rfl,rfl, .inl rfl⟩ ?_ ?_
 ·rintro i hlt f1 f2 ts h clk P ⟨t,a,b,o,q0,q3,q4,rfl,ht⟩ hnx he hr
  dsimp only at q0 q3 q4
  have hix:∀ h,z1n h 1 (.sl (l.map z0i) .no) (.int .i64 (i:Int))=some (.iptr [.sl (l[i].map eNode) .no] 0,h):=fun h=>q1e hlt
  have e8:(l.take i).map z0i++[l[i]].map z0i=(l.take (i + 1)).map z0i:=by rw[List.take_succ_eq_append_getElem hlt,List.map_append]
  have hpx:=hts _ (List.getElem_mem hlt)
  generalize l[i]=x at *
  simp only[go_sem,j3x,q0,q3,q4,hB,f1,hix,List.length_map]
  rw[append_nil hB rfl z2x (by rw[List.length_map];omega)]
  simp only[go_sem,q0,q3,q4,hB]
  rw[show [AV.sl (x.map eNode) .no]=[x].map z0i from rfl,z0k hB rfl ht z4c z4c (by simp only[List.length_map,List.length_singleton,List.length_take];omega),e8]
  simp only[go_sem,q0,q3,q4,f2]
  exact hnx _ ⟨_,_,_,_,q0,rfl,rfl,rfl, .inr (.inr ⟨_,rfl,rfl⟩)⟩
 ·rintro f1 ts h clk P ⟨t,a,b,o,q0,q3,q4,rfl,ht⟩ he hr
  dsimp only at q0 q3 q4
  rw[List.take_length] at q3
  simp only[go_sem,j3x,q0,q3,q4,f1,List.length_map]
  refine he _ _ ?_
  simp only[go_sem,q3]
  rw[z2q rfl (by simp[AV.cv,AV.ids,z0b z1f])]
  exact hT _
theorem k4h {a:App} (hl:a.args.length≤2 ^ 20) (hts:∀ t∈a.args,t.length≤2 ^ 20):Pure Gam 163 [z1p a] (z1p a):=by
 have hp:=w3i (u:= .no) hl hts
 refine Pure.of rfl u1l rfl rfl rfl (az:=[z1p a]) rfl (by simp[idsL,z4f]) fun D B clk T hB hT=> ?_
 simp only[go_sem,w9q,hB,z1p,z0y,z0a hp,z0m,z0l,z0g]
 refine⟨by simp[z0v,apart,z0h,z0s,z0w,AOp.isCall,hB], ?_⟩
 rw[z2q rfl (by simp[AV.cv,cvL,AV.ids,idsL,z0b z1f])]
 exact hT _
theorem w3j {c:Clause} (hc:SmallC c):Pure Gam 98 [z0e c] (z0e c):=by
 have hp:=k4h hc.hargs.1 hc.hargs.2
 have hbl:=hc.body
 have hvl:=hc.vars
 have hgl:=hc.guard
 rw[z1p] at hp
 refine Pure.of rfl u1k rfl rfl rfl (az:=[z0e c]) rfl (by simp[idsL,z1j]) fun D B clk T hB hT=> ?_
 simp only[go_sem,w9p,hB,z0e,z0i,z0y]
 rw[append_nil hB rfl z3d (by rw[List.length_map];omega)]
 simp only[go_sem,hB]
 rw[append_nil hB rfl z2x (by rw[List.length_map];omega)]
 simp only[go_sem,hB,z0a hp]
 refine⟨by simp[z0v,apart,z0h,z0s,z0w,AOp.isCall,hB,AV.ids,idsL,z0b z1k,z0b z0x,z0b z1f], ?_⟩
 refine z2y c.body.length (by omega) (fun i q=>∃ (g0 g1 g2:Nat) (t u1 u2:Tip) (o2 o3 o5 o6:AObj),q.ts 1= .ptr (B + 0) g0 0 0∧q.ts 2= .ptr (B + 1) g1 0 0∧q.ts 3= .ptr (B + 4) g2 0 0∧q.ts 4= .int .i64 (i:Int)∧q.h=D++[.blk g0 [.agg [.sl (c.vars.map z1h) .no, .sl (c.body.map z1p) .no, .sl (c.guard.map eNode) .no, .str c.head.pred, .sl (c.head.args.map z0i) .no]] false false 0, .blk g1 [.agg [.sl [] .nil, .sl [] .nil, .sl [] .nil, .str [], .sl [] .nil]] false false 0,o2,o3, .blk g2 [.agg [.sl (c.vars.map z1h) u1, .sl ((c.body.take i).map z1p) t, .sl (c.guard.map eNode) u2, .str c.head.pred, .sl (c.head.args.map z0i) .no]] false false 0,o5,o6]∧z7x B 6 o6 t 2) ⟨_,_,_, .nil,_,_,_,_,_,_,rfl,rfl,rfl,rfl,rfl, .inl rfl⟩ ?_ ?_
 ·rintro i hlt f1 f2 ts h clk P ⟨g0,g1,g2,t,u1,u2,o2,o3,o5,o6,q1,q2,q3,q4,rfl,ht⟩ hnx he hr
  dsimp only at q1 q2 q3 q4
  have hix:=fun h=>q2p (l:=c.body) (i:=i) (h:=h) (t:= .no) (k:= .i64) hlt
  have e8:(c.body.take i).map z1p++[c.body[i]].map z1p=(c.body.take (i + 1)).map z1p:=by rw[List.take_succ_eq_append_getElem hlt,List.map_append]
  have hpa:=k4h (a:=c.body[i]) (hc.bargs _ (List.getElem_mem hlt)).1 (hc.bargs _ (List.getElem_mem hlt)).2
  rw[z1p] at hpa
  generalize c.body[i]=x at *
  simp only[go_sem,j3w,q1,q2,q3,q4,hB,z0y,f1,hix,z0a hpa,List.length_map]
  rw[show [AV.agg [.str x.pred, .sl (x.args.map z0i) .no]]=[x].map z1p from rfl,z0k hB rfl ht z3n z3n (by simp only[List.length_map,List.length_singleton,List.length_take];omega),e8]
  simp only[go_sem,q1,q2,q3,q4,hB,f2]
  refine⟨by simp[z0v,apart,z0h,z0s,z0w,AOp.isCall,hB,AV.ids,idsL,z0b z1f,z0b z4f], ?_⟩
  exact hnx _ ⟨g0,g1,g2,_,_,_,_,_,_,_,q1,q2,q3,rfl,rfl, .inr (.inr ⟨_,rfl,rfl⟩)⟩
 ·rintro f1 ts h clk P ⟨g0,g1,g2,t,u1,u2,o2,o3,o5,o6,q1,q2,q3,q4,rfl,ht⟩ he hr
  dsimp only at q1 q2 q3 q4
  rw[List.take_length]
  simp only[go_sem,j3w,q1,q2,q3,q4,hB,f1,List.length_map]
  refine he _ _ ?_
  simp only[go_sem,q1,q2,q3,hB,z0m,z0l,z0g]
  rw[z2q rfl (by simp[AV.cv,cvL,AV.ids,idsL,z0b z1k,z0b z0x,z0b z1f,z0b z4f])]
  exact hT _
theorem y4s {s:Sys} {u v:Tip} (hp:s.preds.length≤1000) (ha:∀ f∈s.preds,f.args.length≤2 ^ 20) (hl:s.clauses.length≤2 ^ 18) (hc:∀ c∈s.clauses,SmallC c):Pure Gam 55 [.agg [.sl (s.preds.map z1e) u, .sl (s.clauses.map z0e) v]] (z1b s):=by
 refine Pure.of rfl g2j rfl rfl rfl (az:=[.agg [.sl (s.preds.map z1e) .no, .sl (s.clauses.map z0e) .no]]) rfl (by simp[idsL,AV.ids,z0b z2a,z0b z1j]) fun D B clk T hB hT=> ?_
 simp only[go_sem,u6x,hB,List.length_map]
 refine z2y s.preds.length (by omega) (fun i q=>∃ (g0 g1 g2:Nat) (t:Tip) (o3 o4 o5 o6 o7 o8:AObj),q.ts 1= .ptr (B + 0) g0 0 0∧q.ts 2= .ptr (B + 1) g1 0 0∧q.ts 3= .ptr (B + 2) g2 0 0∧q.ts 4= .int .i64 (i:Int)∧q.h=D++[.blk g0 [.agg [.sl (s.preds.map z1e) .no, .sl (s.clauses.map z0e) .no]] false false 0, .blk g1 [.agg [.sl [] .nil, .sl [] .nil]] false false 0, .blk g2 [.agg [.sl ((s.preds.take i).map z1e) t, .sl [] .nil]] false false 0,o3,o4,o5,o6,o7,o8]∧z7x B 6 o6 t 3) ⟨_,_,_, .nil,_,_,_,_,_,_,rfl,rfl,rfl,rfl,rfl, .inl rfl⟩ ?_ ?_
 ·rintro i hlt f1 f2 ts h clk P ⟨g0,g1,g2,t,o3,o4,o5,o6,o7,o8,q1,q2,q3,q4,rfl,ht⟩ hnx he hr
  dsimp only at q1 q2 q3 q4
  have hix:=fun h=>z4u (l:=s.preds) (i:=i) (h:=h) (t:= .no) (k:= .i64) hlt
  have e8:(s.preds.take i).map z1e++[s.preds[i]].map z1e=(s.preds.take (i + 1)).map z1e:=by rw[List.take_succ_eq_append_getElem hlt,List.map_append]
  have hpf:=ha _ (List.getElem_mem hlt)
  generalize s.preds[i]=f at *
  simp only[go_sem,k7o,q1,q2,q3,q4,hB,f1,hix,List.length_map]
  rw[append_nil hB rfl z4i (by rw[List.length_map];omega)]
  simp only[go_sem,q1,q2,q3,q4,hB]
  rw[show [AV.agg [.str f.name, .sl (f.args.map nat) .no, .int .i64 (f.result:Int)]]=[f].map z1e from rfl,z0k hB rfl ht z4q z4q (by simp only[List.length_map,List.length_singleton,List.length_take];omega),e8]
  simp only[go_sem,q1,q2,q3,q4,hB,f2]
  exact hnx _ ⟨g0,g1,g2,_,_,_,_,_,_,_,q1,q2,q3,rfl,rfl, .inr (.inr ⟨_,rfl,rfl⟩)⟩
 ·rintro f1 ts h clk P ⟨g0,g1,g2,tp,o3,o4,o5,o6,o7,o8,q1,q2,q3,q4,rfl,ht⟩ he hr
  dsimp only at q1 q2 q3 q4
  rw[List.take_length]
  simp only[go_sem,k7o,q1,q2,q3,q4,hB,f1,List.length_map]
  refine he _ _ ?_
  simp only[go_sem,]
  clear ht q4 f1
  refine z2y s.clauses.length (by omega) (fun i q=>∃ (t:Tip) (o3 o4 o5 o6 o7 o8:AObj),q.ts 1= .ptr (B + 0) g0 0 0∧q.ts 2= .ptr (B + 1) g1 0 0∧q.ts 3= .ptr (B + 2) g2 0 0∧q.ts 6= .int .i64 (i:Int)∧q.h=D++[.blk g0 [.agg [.sl (s.preds.map z1e) .no, .sl (s.clauses.map z0e) .no]] false false 0, .blk g1 [.agg [.sl [] .nil, .sl [] .nil]] false false 0, .blk g2 [.agg [.sl (s.preds.map z1e) tp, .sl ((s.clauses.take i).map z0e) t]] false false 0,o3,o4,o5,o6,o7,o8]∧z7x B 8 o8 t 5) ⟨.nil,_,_,_,_,_,_,by simp[z0c,q1],by simp[z0c,q2],by simp[z0c,q3],by simp[z0c],rfl, .inl rfl⟩ ?_ ?_
  ·clear q1 q2 q3
   rintro i hlt f1 f2 ts h clk P ⟨t,o3,o4,o5,o6,o7,o8,q1,q2,q3,q6,rfl,ht⟩ hnx he hr
   dsimp only at q1 q2 q3 q6
   have hix:=fun h=>z5j (l:=s.clauses) (i:=i) (h:=h) (t:= .no) (k:= .i64) hlt
   have e8:(s.clauses.take i).map z0e++[s.clauses[i]].map z0e=(s.clauses.take (i + 1)).map z0e:=by rw[List.take_succ_eq_append_getElem hlt,List.map_append]
   have hpc:=w3j (hc _ (List.getElem_mem hlt))
   rw[z0e,z0i] at hpc
   generalize s.clauses[i]=c at *
   simp only[go_sem,k1t,q1,q2,q3,q6,hB,z0y,f1,hix,z0a hpc,List.length_map]
   rw[show [AV.agg [.sl (c.vars.map z1h) .no, .sl (c.body.map z1p) .no, .sl (c.guard.map eNode) .no, .str c.head.pred, .sl (c.head.args.map z0i) .no]]=[c].map z0e from rfl,z0k hB rfl ht z2o z2o (by simp only[List.length_map,List.length_singleton,List.length_take];omega),e8]
   simp only[go_sem,q1,q2,q3,q6,hB,f2]
   refine⟨by simp[z0v,apart,z0h,z0s,z0w,AOp.isCall,hB,AV.ids,idsL,z0b z1f,z0b z1k,z0b z4f,z0b z0x,z0b z1j], ?_⟩
   exact hnx _ ⟨_,_,_,_,_,_,_,q1,q2,q3,rfl,rfl, .inr (.inr ⟨_,rfl,rfl⟩)⟩
  ·clear q1 q2 q3
   rintro f1 ts h clk P ⟨t,o3,o4,o5,o6,o7,o8,q1,q2,q3,q6,rfl,ht⟩ he hr
   dsimp only at q1 q2 q3 q6
   rw[List.take_length]
   simp only[go_sem,k1t,q1,q2,q3,q6,hB,f1,List.length_map]
   refine he _ _ ?_
   simp only[go_sem,q1,q2,q3,hB,z0m,z0l,z0g]
   rw[z2q rfl (by simp[AV.cv,cvL,AV.ids,idsL,z0b z2a,z0b z1j])]
   exact hT _
def v4n (s:Sys) (i:Nat):List Nat:=((s.clauses[i]?).map (·.head.pred)).getD []
def clI (s:Sys) (a:List Nat) (n:Nat):List Nat:=(List.range n).filter fun i=>decide (v4n s i=a)
theorem j5p {s:Sys} {a:List Nat} {n:Nat}:clI s a (n + 1)=clI s a n++if v4n s n=a then [n] else []:=by
 unfold clI
 rw[List.range_succ,List.filter_append]
 by_cases h:v4n s n=a <;> simp[h]
theorem q6r {s:Sys} {a:List Nat} {n:Nat}:(clI s a n).length≤n:=Nat.le_trans (List.length_filter_le _ _) (by simp)
theorem x3y {s:Sys} {a:List Nat} {n i:Nat} (h:i∈clI s a n):i < n:=by
 have:=(List.mem_filter.1 h).1
 simpa using this
theorem x5z {s:Sys} {i:Nat} (h:i < s.clauses.length):v4n s i=s.clauses[i].head.pred:=by simp[v4n,h]
def cls (s:Sys) (a:List Nat):List Nat:=clI s a s.clauses.length
def noC:Clause:=⟨[],[],[],[],[]⟩
def q4l (s:Sys) (i:Nat):Clause:=(s.clauses[i]?).getD noC
def z9f (s:Sys) (p q:Func):Bool:= !decide (p.name=q.name) && decide (p.args=q.args) && decide ((cls s p.name).map (fun i=>q0q p.name q.name (q4l s i))=(cls s q.name).map fun i=>q0q p.name q.name (q4l s i))
theorem x6a {D L:List AObj} {B k gen i:Nat} {xs:List Nat} {t:Tip} {o:AObj} (hB:D.length=B) (ho:L[k]? =some o) (ht:z7x B k o t 1) (hl:xs.length≤2 ^ 20):
  z0n (D++L) (B + k) gen 1 8 false (.sl (xs.map nat) t) (.sl [.int .i64 (i:Int)] .full)=some (.sl ((xs++[i]).map nat) (.at (B + k) gen),D++L.set k (.tip gen 1)):=by
 rw[show [AV.int .i64 (i:Int)]=[i].map nat from rfl,z0k hB ho ht z4i z4i (by simp only[List.length_map,List.length_singleton];omega),List.map_append]
theorem v4o {s:Sys} {a:List Nat} (hl:s.clauses.length≤2 ^ 18):Pure Gam 149 [z1b s, .str a] (.sl ((cls s a).map nat) .no):=by
 refine Pure.of rfl g2g rfl rfl rfl (az:=[z1b s, .str a]) rfl (by simp[idsL,AV.ids,z2k]) fun D B clk T hB hT=> ?_
 simp only[go_sem,u6w,hB,z1b,List.length_map]
 refine z2y s.clauses.length (by omega) (fun i q=>∃ (t:Tip) (o0 o1 o2 o3:AObj),q.ts 1= .str a∧q.ts 5= .sl ((clI s a i).map nat) t∧q.ts 9= .sl (s.clauses.map z0e) .no∧q.ts 10= .int .i64 (s.clauses.length:Int)∧q.ts 11= .int .i64 (i:Int)∧q.h=D++[o0,o1,o2,o3]∧z7x B 3 o3 t 1) ⟨.nil,_,_,_,_,rfl,rfl,rfl,rfl,rfl,rfl, .inl rfl⟩ ?_ ?_
 ·rintro i hlt f1 f2 ts h clk P ⟨t,o0,o1,o2,o3,q1,q5,q9,q10,q11,rfl,ht⟩ hnx he hr
  dsimp only at q1 q5 q9 q10 q11
  have hix:=fun h=>z5j (l:=s.clauses) (i:=i) (h:=h) (t:= .no) (k:= .i64) hlt
  have hc:=j5p (s:=s) (a:=a) (n:=i)
  have hg:=fun {L gen}=>x6a (D:=D) (L:=L) (B:=B) (k:=3) (gen:=gen) (i:=i) (xs:=clI s a i) (t:=t) (o:=o3) hB
  have hll:(clI s a i).length≤2 ^ 20:=Nat.le_trans q6r (by omega)
  rw[x5z hlt] at hc
  generalize s.clauses[i]=c at *
  cases hd:decide (c.head.pred=a) with
  | true=>
    rw[if_pos (of_decide_eq_true hd)] at hc
    simp only[go_sem,k1r,q1,q5,q9,q10,q11,hB,f1,hix,hd]
    rw[hg rfl ht hll,←hc]
    simp only[go_sem,q1,q5,q9,q10,q11,f2]
    exact hnx _ ⟨_,_,_,_,_,q1,rfl,q9,q10,rfl,rfl, .inr (.inr ⟨_,rfl,rfl⟩)⟩
  | false=>
    rw[if_neg (of_decide_eq_false hd),List.append_nil] at hc
    simp only[go_sem,k1r,q1,q5,q9,q10,q11,hB,f1,f2,hix,hd]
    exact hnx _ ⟨t,_,_,_,_,q1,by rw[hc];exact q5,q9,q10,rfl,rfl,ht⟩
 ·rintro f1 ts h clk P ⟨t,o0,o1,o2,o3,q1,q5,q9,q10,q11,rfl,ht⟩ he hr
  dsimp only at q1 q5 q9 q10 q11
  simp only[go_sem,k1r,q1,q5,q9,q10,q11,f1]
  refine he _ _ ?_
  simp only[go_sem,q5]
  rw[z2q rfl (by simp[AV.cv,AV.ids,z6m])]
  exact hT _
theorem q6s {s:Sys} {i:Nat} (h:i < s.clauses.length):q4l s i=s.clauses[i]:=by simp[q4l,h]
theorem Cov.pair {s t:Nat} {o q:AObj} (ho:o.ids=[]) (hq:q.ids=[]):Cov [(s,o),(t,q)] [s,t]:=by
 refine⟨by simp,by simp[ho,hq],fun h hS p hp=> ?_⟩
 simp at hp
 rcases hp with rfl | rfl
 ·exact z4n (.inr (by simp))
 ·exact z4n (.inr (by simp))
theorem w3k {r s gr gs:Nat} {S:Sys} {p q:List Nat} {i k:Nat} (hi:i < S.clauses.length) (hk:k < S.clauses.length) (hc:∀ c∈S.clauses,CmpC c):Reads [(r, .blk gr [q4o p q] false false 0),(s, .blk gs [z1b S] false false 0)] 151 [nat i,nat k, .ptr r gr 0 0, .ptr s gs 0 0] (.bool (decide (q0q p q (q4l S i)=q0q p q (q4l S k)))):=by
 rw[q6s hi,q6s hk]
 have p1:=y4r (p:=p) (q:=q) (hc _ (List.getElem_mem hi)) (hc _ (List.getElem_mem hk))
 have hx:=fun h=>z5j (l:=S.clauses) (i:=i) (h:=h) (t:= .no) (k:= .i64) hi
 have hy:=fun h=>z5j (l:=S.clauses) (i:=k) (h:=h) (t:= .no) (k:= .i64) hk
 generalize decide (q0q p q S.clauses[i]=q0q p q S.clauses[k])=b at *
 generalize S.clauses[i]=c at *
 generalize S.clauses[k]=d at *
 refine Reads.of rfl g1v rfl rfl rfl (az:=[nat i,nat k, .ptr r gr 0 0, .ptr s gs 0 0]) rfl (by simpa [idsL,AV.ids,nat] using Cov.pair (by simp[AObj.ids,idsL,q4o,AV.ids]) (by simp[AObj.ids,idsL,z2k])) fun D B clk T hB hS hlt hT=> ?_
 have hr:r < B:=hlt (r,_) List.mem_cons_self
 have hs:s < B:=hlt (s,_) (List.mem_cons_of_mem _ List.mem_cons_self)
 have b1:∀ L,z1s (D++L) r gr=some ([q4o p q],false,false,0):=fun L=>by rw[z3p hB hr,z2g (hS (r,_) List.mem_cons_self)]
 have b2:∀ L,z1s (D++L) s gs=some ([z1b S],false,false,0):=fun L=>by rw[z3p hB hs,z2g (hS (s,_) (List.mem_cons_of_mem _ List.mem_cons_self))]
 simp only[q4o,z0e,z0i,z1b] at p1 b1 b2
 simp only[go_sem,u6q,hB,nat,b1,b2,hx,hy,z0a p1]
 rw[z0d]
 exact hT _ hS.app
theorem y4t {s:Sys} {p q:Func} (hl:s.clauses.length≤2 ^ 18) (hc:∀ c∈s.clauses,CmpC c) (hp:p.args.length≤20000) (hq:q.args.length≤20000):Pure Gam 87 [z1b s,z1e p,z1e q] (.bool (z9f s p q)):=by
 have p1:=w3e (xs:=p.args) (ys:=q.args) (u:= .no) (v:= .no) (by omega) (by omega)
 have p2:=v4o (s:=s) (a:=p.name) hl
 have p3:=v4o (s:=s) (a:=q.name) hl
 have p4:∀ a b g g',Reads [(a, .blk g [q4o p.name q.name] false false 0),(b, .blk g' [z1b s] false false 0)] 150 [.sl ((cls s p.name).map nat) .no, .sl ((cls s q.name).map nat) .no, .fn 151 [.ptr a g 0 0, .ptr b g' 0 0]] (.bool (decide ((cls s p.name).map (fun i=>q0q p.name q.name (q4l s i))=(cls s q.name).map fun i=>q0q p.name q.name (q4l s i)))):=fun a b g g'=>by
  rw[←x5y]
  exact y4q (enc:=nat) (enc':=nat) (P:=fun i k=>decide (q0q p.name q.name (q4l s i)=q0q p.name q.name (q4l s k))) rfl g1u (fun _=>rfl) (fun _=>rfl) (fun _ _=>rfl) (fun _ _=>rfl) (fun _=>rfl) (fun _=>rfl) (Nat.le_trans q6r (by omega)) (by simpa [idsL,AV.ids] using Cov.pair (by simp[AObj.ids,idsL,q4o,AV.ids]) (by simp[AObj.ids,idsL,z2k])) fun i hi k hk=>w3k (x3y hi) (x3y hk) hc
 simp only[z1b,q4o] at p2 p3 p4
 refine Pure.of rfl g2f rfl rfl rfl (az:=[z1b s,z1e p,z1e q]) rfl (by simp[idsL,z2k,z2a]) fun D B clk T hB hT=> ?_
 unfold z9f at hT
 cases h1:decide (p.name=q.name) with
 | true=>
   rw[h1] at hT
   simp only[go_sem,y8g,hB,z1b,z1e,nat,h1]
   rw[z0d]
   exact hT _
 | false=>
   cases h2:decide (p.args=q.args) with
   | false=>
     rw[h1,h2] at hT
     rw[h2] at p1
     simp only[go_sem,y8g,hB,z1b,z1e,nat,h1,z0a p1,Bool.not_false]
     rw[z0d]
     exact hT _
   | true=>
     rw[h1,h2] at hT
     rw[h2] at p1
     simp only[go_sem,y8g,hB,z1b,z1e,nat,h1,z0a p1,Bool.not_true,z0y,z0a p2,z0a p3]
     refine⟨by simp[z0v,apart,z0h,z0s,z0w,AOp.isCall,hB,AV.ids,idsL,z0b z2a,z0b z1j,z6m], ?_⟩
     rw[z1m (p4 _ _ _ _) (Has.cons (by show (D++_)[B + 3]? =_;rw[z2v hB];rfl) (Has.cons (by show (D++_)[B + 0]? =_;rw[z2v hB];rfl) Has.nil))]
     simp only[go_sem,hB]
     rw[z0d]
     exact hT _
def w3l (a b:Int):Int:=if a < b then -1 else if b < a then 1 else 0
def w4j (a b:List Nat):Int:=if z4p a b=true then -1 else if a=b then 0 else 1
theorem q2q {a b:Int}:w3l a b=0↔a=b:=by
 unfold w3l
 split
 ·constructor
  ·intro h;cases h
  ·omega
 ·split
  ·constructor
   ·intro h;cases h
   ·omega
  ·simp;omega
theorem x9u {a b:List Nat}:w4j a b=0↔a=b:=by
 unfold w4j
 split
 ·rename_i h
  refine⟨fun h=>(by cases h),fun e=> ?_⟩
  rw[e,z9t] at h
  cases h
 ·split <;> simp_all
theorem v4p {h:List AObj} {t:ETy} {a b:List Nat}:z6w h .gtr t (.str a) (.str b)=some (.bool (!z4p a b && !decide (a=b)),h):=by simp[z6w,z4k,q4q]
theorem x6b {a b:Int}:Pure Gam 134 [.int .i64 a, .int .i64 b] (.int .i64 (w3l a b)):=by
 refine Pure.of rfl w9t rfl rfl rfl rfl rfl fun D B clk T hB hT=> ?_
 unfold w3l at hT
 cases h1:decide (a < b) with
 | true=>
   rw[if_pos (of_decide_eq_true h1)] at hT
   simp only[go_sem,k1u,h1]
   rw[z0j rfl rfl]
   exact hT _
 | false=>
   rw[if_neg (of_decide_eq_false h1)] at hT
   cases h2:decide (b < a) with
   | true=>
     rw[if_pos (of_decide_eq_true h2)] at hT
     simp only[go_sem,k1u,h1,h2]
     rw[z0j rfl rfl]
     exact hT _
   | false=>
     rw[if_neg (of_decide_eq_false h2)] at hT
     simp only[go_sem,k1u,h1,h2]
     rw[z0j rfl rfl]
     exact hT _
theorem k9w {a b:List Nat}:Pure Gam 135 [.str a, .str b] (.int .i64 (w4j a b)):=by
 refine Pure.of rfl w9u rfl rfl rfl rfl rfl fun D B clk T hB hT=> ?_
 unfold w4j at hT
 cases h1:z4p a b with
 | true=>
   rw[if_pos h1] at hT
   simp only[go_sem,k1v,h1]
   rw[z0j rfl rfl]
   exact hT _
 | false=>
   rw[if_neg (by simp[h1])] at hT
   cases h2:decide (a=b) with
   | true=>
     rw[if_pos (of_decide_eq_true h2)] at hT
     simp only[go_sem,k1v,h1,h2,v4p,Bool.not_false,Bool.not_true,Bool.true_and]
     rw[z0j rfl rfl]
     exact hT _
   | false=>
     rw[if_neg (of_decide_eq_false h2)] at hT
     simp only[go_sem,k1v,h1,h2,v4p,Bool.not_false,Bool.true_and]
     rw[z0j rfl rfl]
     exact hT _
theorem u5s {t u:Term} {v w:Tip} {h:List AObj} {clk:Nat} {Q:AV→List AObj→Nat→Prop} (hl:t.length≤20000) (hQ:∀ z:Int,(z=0↔t=u)→Q (.int .i64 z) h clk):WC Gam 81 [.sl (t.map eNode) v, .sl (u.map eNode) w] h clk Q:=by
 refine q3z rfl w9s rfl rfl rfl (az:=[.sl (t.map eNode) .no, .sl (u.map eNode) .no]) rfl (by simp[idsL,z5h]) fun D B T hB hT=> ?_
 have ea0:∀ (h:List AObj) (g:Nat),q1l h 5 1 (.ptr (B + 2) g 0 0) (.int .i64 0)=some (.ptr (B + 2) g 0 0,h):=fun _ _=>rfl
 have ea1:∀ (h:List AObj) (g:Nat),q1l h 5 1 (.ptr (B + 2) g 0 0) (.int .i64 1)=some (.ptr (B + 2) g 0 1,h):=fun _ _=>rfl
 have ea2:∀ (h:List AObj) (g:Nat),q1l h 5 1 (.ptr (B + 2) g 0 0) (.int .i64 2)=some (.ptr (B + 2) g 0 2,h):=fun _ _=>rfl
 have ea3:∀ (h:List AObj) (g:Nat),q1l h 5 1 (.ptr (B + 2) g 0 0) (.int .i64 3)=some (.ptr (B + 2) g 0 3,h):=fun _ _=>rfl
 have ea4:∀ (h:List AObj) (g:Nat),q1l h 5 1 (.ptr (B + 2) g 0 0) (.int .i64 4)=some (.ptr (B + 2) g 0 4,h):=fun _ _=>rfl
 have w0:IntKind.i64.wrap (0 + 1)=1:=by decide
 have w1:IntKind.i64.wrap (1 + 1)=2:=by decide
 have w2:IntKind.i64.wrap (2 + 1)=3:=by decide
 have w3:IntKind.i64.wrap (3 + 1)=4:=by decide
 have w4:IntKind.i64.wrap (4 + 1)=5:=by decide
 simp only[go_sem,v9q,hB]
 refine z1q (fun m q=>∃ (i:Nat) (o0 o1 o2:AObj),i≤t.length∧m=t.length - i∧i≤u.length∧t.take i=u.take i∧q.ts 0= .sl (t.map eNode) .no∧q.ts 1= .sl (u.map eNode) .no∧q.ts 5= .int .i64 (i:Int)∧q.h=D++[o0,o1,o2]) t.length ⟨0,_,_,_,by omega,rfl,by omega,by simp,rfl,rfl,rfl,rfl⟩ ?_
 rintro m ⟨ts,h',clk⟩ P ⟨i,o0,o1,o2,hi,rfl,hiu,htk,h0,h1,h5,rfl⟩ hnx he hr
 dsimp only at h0 h1 h5
 have f2:IntKind.i64.wrap ((i:Int) + 1)=((i + 1:Nat):Int):=z0f (by omega) (by omega)
 have fin:∀ z:Int,(z=0↔t=u)→∀ h',RV [] (some [AV.int .i64 z]) (fun v h'=>T v h') h':=fun z hz h'=>by
  rw[z0j rfl rfl]
  exact hT _ _ (hQ z hz)
 by_cases hlt:i < t.length
 ·have f1:decide ((i:Int) < (t.length:Int))=true:=by rw[decide_eq_true_iff];omega
  by_cases hlu:i < u.length
  ·have f3:decide ((i:Int) < (u.length:Int))=true:=by rw[decide_eq_true_iff];omega
   have hti:t[i]? =some t[i]:=List.getElem?_eq_getElem hlt
   have hui:u[i]? =some u[i]:=List.getElem?_eq_getElem hlu
   have hne:t[i]≠u[i]→∀ z:Int,z≠0→(z=0↔t=u):=fun hn z hz=>⟨fun h=>absurd h hz,fun h=>by subst h;exact absurd rfl hn⟩
   have hst:t[i]=u[i]→t.take (i + 1)=u.take (i + 1):=j8t hlt hlu htk
   generalize t[i]=n at *
   generalize u[i]=o at *
   have zz0:=q2q (a:=(n.op:Int)) (b:=(o.op:Int))
   have zz1:=q2q (a:=(n.sort:Int)) (b:=(o.sort:Int))
   have zz2:=x9u (a:=n.name) (b:=o.name)
   have zz3:=x9u (a:=n.num) (b:=o.num)
   have zz4:=q2q (a:=(n.kids:Int)) (b:=(o.kids:Int))
   simp only[go_sem,q9z,h0,h1,h5,hB,List.length_map,f1,f3,z0y,z2p hti,z2p hui,z0a x6b,z0a k9w]
   refine⟨by simp[z0v,apart,z0h,z0s,z0w,AOp.isCall,hB,z5h], ?_⟩
   refine⟨by simp[z0v,apart,z0h,z0s,z0w,AOp.isCall,hB,z5h], ?_⟩
   generalize w3l (n.op:Int) o.op=y0 at *
   generalize w3l (n.sort:Int) o.sort=y1 at *
   generalize w4j n.name o.name=y2 at *
   generalize w4j n.num o.num=y3 at *
   generalize w3l (n.kids:Int) o.kids=y4 at *
   refine z2e ?_
   cases d0:decide (y0=0) with
   | false=>
     simp only[go_sem,z6x,hB,h0,h1,h5,Int.reduceLT,decide_true,ea0,w0,d0,Bool.not_false]
     refine hr _ ?_
     simp only[go_sem,]
     exact fin _ (hne (fun e=>of_decide_eq_false d0 (zz0.2 (by rw[e]))) _ (of_decide_eq_false d0)) _
   | true=>
   simp only[go_sem,z6x,hB,h0,h1,h5,Int.reduceLT,decide_true,ea0,w0,d0,Bool.not_true]
   refine z2e ?_
   cases d1:decide (y1=0) with
   | false=>
     simp only[go_sem,z6x,hB,h0,h1,h5,Int.reduceLT,decide_true,ea1,w1,d1,Bool.not_false]
     refine hr _ ?_
     simp only[go_sem,]
     exact fin _ (hne (fun e=>of_decide_eq_false d1 (zz1.2 (by rw[e]))) _ (of_decide_eq_false d1)) _
   | true=>
   simp only[go_sem,z6x,hB,h0,h1,h5,Int.reduceLT,decide_true,ea1,w1,d1,Bool.not_true]
   refine z2e ?_
   cases d2:decide (y2=0) with
   | false=>
     simp only[go_sem,z6x,hB,h0,h1,h5,Int.reduceLT,decide_true,ea2,w2,d2,Bool.not_false]
     refine hr _ ?_
     simp only[go_sem,]
     exact fin _ (hne (fun e=>of_decide_eq_false d2 (zz2.2 (by rw[e]))) _ (of_decide_eq_false d2)) _
   | true=>
   simp only[go_sem,z6x,hB,h0,h1,h5,Int.reduceLT,decide_true,ea2,w2,d2,Bool.not_true]
   refine z2e ?_
   cases d3:decide (y3=0) with
   | false=>
     simp only[go_sem,z6x,hB,h0,h1,h5,Int.reduceLT,decide_true,ea3,w3,d3,Bool.not_false]
     refine hr _ ?_
     simp only[go_sem,]
     exact fin _ (hne (fun e=>of_decide_eq_false d3 (zz3.2 (by rw[e]))) _ (of_decide_eq_false d3)) _
   | true=>
   simp only[go_sem,z6x,hB,h0,h1,h5,Int.reduceLT,decide_true,ea3,w3,d3,Bool.not_true]
   refine z2e ?_
   cases d4:decide (y4=0) with
   | false=>
     simp only[go_sem,z6x,hB,h0,h1,h5,Int.reduceLT,decide_true,ea4,w4,d4,Bool.not_false]
     refine hr _ ?_
     simp only[go_sem,]
     exact fin _ (hne (fun e=>of_decide_eq_false d4 (zz4.2 (by rw[e]))) _ (of_decide_eq_false d4)) _
   | true=>
   simp only[go_sem,z6x,hB,h0,h1,h5,Int.reduceLT,decide_true,ea4,w4,d4,Bool.not_true]
   refine z2e ?_
   simp only[go_sem,z6x,hB,h0,h1,h5,Int.reduceLT,decide_false,f2]
   have e0:n.op=o.op:=by have:=zz0.1 (of_decide_eq_true d0);omega
   have e1:n.sort=o.sort:=by have:=zz1.1 (of_decide_eq_true d1);omega
   have e4:n.kids=o.kids:=by have:=zz4.1 (of_decide_eq_true d4);omega
   have e:n=o:=by
    cases n;cases o
    simp only[Node.mk.injEq]
    exact⟨e0,e1,zz2.1 (of_decide_eq_true d2),zz3.1 (of_decide_eq_true d3),e4⟩
   exact hnx (t.length - (i + 1)) _ (by omega) ⟨i + 1,_,_,_,hlt,rfl,hlu,hst e,h0,h1,rfl,rfl⟩
  ·have f3:decide ((i:Int) < (u.length:Int))=false:=by rw[decide_eq_false_iff_not];omega
   simp only[go_sem,q9z,h0,h1,h5,hB,List.length_map,f1,f3]
   refine he _ _ ?_
   simp only[go_sem,h0,h1,List.length_map,z0a x6b]
   exact fin _ (by rw[q2q];exact⟨fun h=>by omega,fun h=>by rw[h]⟩) _
 ·have f1:decide ((i:Int) < (t.length:Int))=false:=by rw[decide_eq_false_iff_not];omega
  simp only[go_sem,q9z,h0,h1,h5,hB,List.length_map,f1]
  refine he _ _ ?_
  simp only[go_sem,h0,h1,List.length_map,z0a x6b]
  refine fin _ ?_ _
  rw[q2q]
  obtain rfl:i=t.length:=by omega
  refine⟨fun h=> ?_,fun h=>by rw[h]⟩
  have:t.length=u.length:=by omega
  rwa [List.take_length,this,List.take_length] at htk
theorem k4i {t u:Term} {v w:Tip} (hl:t.length≤20000):Pure Gam 41 [.sl (t.map eNode) v, .sl (u.map eNode) w] (.bool (decide (t=u))):=by
 refine Pure.of rfl u7b rfl rfl rfl (az:=[.sl (t.map eNode) .no, .sl (u.map eNode) .no]) rfl (by simp[idsL,z5h]) fun D B clk T hB hT=> ?_
 simp only[go_sem,u1n,hB]
 refine z3g (u5s hl fun z hz=> ?_)
 have e:decide (z=0)=decide (t=u):=by simp[hz]
 simp only[go_sem,e]
 rw[z0d]
 exact hT _
theorem y4u {xs ys:List Nat} {u v:Tip} (hl:xs.length≤20000) (hl2:ys.length≤20000):Pure Gam 92 [.sl (xs.map nat) u, .sl (ys.map nat) v] (.bool (decide (xs=ys))):=by
 refine Pure.of rfl g1y rfl rfl rfl (az:=[.sl (xs.map nat) .no, .sl (ys.map nat) .no]) rfl (by simp[idsL,AV.ids,z6m]) fun D B clk T hB hT=> ?_
 cases hlen:decide (xs.length=ys.length) with
 | true=>
   have hlen':xs.length=ys.length:=of_decide_eq_true hlen
   simp only[go_sem,u1h,hB,List.length_map,z5r,hlen,Bool.not_true]
   refine z2y xs.length (by omega) (fun i q=>xs.take i=ys.take i∧q.ts 0= .sl (xs.map nat) .no∧q.ts 1= .sl (ys.map nat) .no∧q.ts 5= .int .i64 (i:Int)) ⟨by simp,rfl,rfl,rfl⟩ ?_ ?_
   ·rintro i hlt f1 f2 ts h clk P ⟨he0,q0,q1,q5⟩ hnx he hr
    dsimp only at q0 q1 q5
    have hlt2:i < ys.length:=by omega
    have hx:=fun h=>z7y (l:=xs) (i:=i) (h:=h) (t:= .no) (k:= .i64) hlt
    have hy:=fun h=>z7y (l:=ys) (i:=i) (h:=h) (t:= .no) (k:= .i64) hlt2
    simp only[nat] at hx hy
    cases hc:decide (xs[i]=ys[i]) with
    | true=>
      simp only[go_sem,k1p,q0,q1,q5,f1,f2,List.length_map,hx,hy,z5r,hc,Bool.not_true]
      exact hnx _ ⟨j8t hlt hlt2 he0 (of_decide_eq_true hc),q0,q1,rfl⟩
    | false=>
      simp only[go_sem,k1p,q0,q1,q5,f1,f2,List.length_map,hx,hy,z5r,hc,Bool.not_false]
      refine hr _ ?_
      rw[decide_eq_false fun e=>of_decide_eq_false hc (by subst e;rfl)] at hT
      simp only[go_sem,]
      rw[z0d]
      exact hT _
   ·rintro f1 ts h clk P ⟨he0,q0,q1,q5⟩ he hr
    dsimp only at q0 q1 q5
    simp only[go_sem,k1p,q0,q1,q5,List.length_map,f1]
    refine he _ _ ?_
    rw[List.take_length,hlen',List.take_length] at he0
    rw[decide_eq_true he0] at hT
    simp only[go_sem,]
    rw[z0d]
    exact hT _
 | false=>
   simp only[go_sem,u1h,hB,List.length_map,z5r,hlen,Bool.not_false]
   rw[decide_eq_false fun e=>of_decide_eq_false hlen (by rw[e])] at hT
   rw[z0d]
   exact hT _
theorem k4j {p q:List Nat} {a:App}:Pure Gam 97 [z1p a, .str p, .str q] (z1p (z7p p q a)):=by
 refine Pure.of rfl u1i rfl rfl rfl (az:=[z1p a, .str p, .str q]) rfl (by simp[idsL,AV.ids,z4f]) fun D B clk T hB hT=> ?_
 cases h:decide (a.pred=p) with
 | true=>
   simp only[go_sem,v9n,hB,z1p,h,z0m,z0l,z0g]
   rw[z2q rfl (by simp[AV.cv,cvL,AV.ids,idsL,z0b z1f])]
   simp only[z7p,if_pos (of_decide_eq_true h),z1p] at hT
   exact hT _
 | false=>
   simp only[go_sem,v9n,hB,z1p,h,z0m,z0l,z0g]
   rw[z2q rfl (by simp[AV.cv,cvL,AV.ids,idsL,z0b z1f])]
   simp only[z7p,if_neg (of_decide_eq_false h),z1p] at hT
   exact hT _
theorem k4k {c:Clause} {p q:List Nat} (hb:c.body.length≤20000):Pure Gam 53 [z0e c, .str p, .str q] (z0e (q0q p q c)):=by
 have p1:=k4j (p:=p) (q:=q) (a:=c.head)
 simp only[z1p] at p1
 refine Pure.of rfl g2a rfl rfl rfl (az:=[z0e c, .str p, .str q]) rfl (by simp[idsL,AV.ids,z1j]) fun D B clk T hB hT=> ?_
 simp only[go_sem,u6t,hB,z0e,z0i,z0y,z0a p1]
 refine⟨by simp[z0v,apart,z0h,z0s,z0w,AOp.isCall,hB,AV.ids,idsL,z0b z1k,z0b z0x,z0b z1f], ?_⟩
 refine z2y c.body.length (by omega) (fun i q'=>∃ (g0 g1 g2:Nat) (t:Tip) (o3 o4:AObj),q'.ts 1= .str p∧q'.ts 2= .str q∧q'.ts 3= .ptr (B + 0) g0 0 0∧q'.ts 6= .ptr (B + 1) g1 0 0∧q'.ts 7= .ptr (B + 2) g2 0 0∧q'.ts 8= .int .i64 (i:Int)∧q'.h=D++[.blk g0 [.agg [.sl (c.vars.map z1h) .no, .sl (c.body.map z1p) .no, .sl (c.guard.map eNode) .no, .str c.head.pred, .sl (c.head.args.map z0i) .no]] false false 0, .blk g1 [.agg [.sl [] .nil, .sl [] .nil, .sl [] .nil, .str [], .sl [] .nil]] false false 0, .blk g2 [.agg [.sl (c.vars.map z1h) .no, .sl (((c.body.take i).map (z7p p q)).map z1p) t, .sl (c.guard.map eNode) .no, .str (z7p p q c.head).pred, .sl ((z7p p q c.head).args.map z0i) .no]] false false 0,o3,o4]∧z7x B 4 o4 t 2) ⟨_,_,_, .nil,_,_,rfl,rfl,rfl,rfl,rfl,rfl,rfl, .inl rfl⟩ ?_ ?_
 ·rintro i hlt f1 f2 ts h clk P ⟨g0,g1,g2,t,o3,o4,q1,q2,q3,q6,q7,q8,rfl,ht⟩ hnx he hr
  dsimp only at q1 q2 q3 q6 q7 q8
  have hix:=fun h=>q2p (l:=c.body) (i:=i) (h:=h) (t:= .no) (k:= .i64) hlt
  have p2:=k4j (p:=p) (q:=q) (a:=c.body[i])
  have e8:((c.body.take i).map (z7p p q)).map z1p++[z7p p q c.body[i]].map z1p=((c.body.take (i + 1)).map (z7p p q)).map z1p:=by rw[List.take_succ_eq_append_getElem hlt,List.map_append,List.map_append];rfl
  simp only[z1p] at p2
  generalize z7p p q c.body[i]=x at *
  generalize c.body[i]=y at *
  simp only[go_sem,k7j,q1,q2,q3,q6,q7,q8,hB,f1,List.length_map,hix,z0y,z0a p2]
  rw[show [AV.agg [.str x.pred, .sl (x.args.map z0i) .no]]=[x].map z1p from rfl,z0k hB rfl ht z3n z3n (by simp only[List.length_map,List.length_singleton,List.length_take];omega),e8]
  simp only[go_sem,q1,q2,q3,q6,q7,q8,hB,f2]
  refine⟨by simp[z0v,apart,z0h,z0s,z0w,AOp.isCall,hB,AV.ids,idsL,z0b z4f,z0b z1f], ?_⟩
  exact hnx _ ⟨_,_,_,_,_,_,q1,q2,q3,q6,q7,rfl,rfl, .inr (.inr ⟨_,rfl,rfl⟩)⟩
 ·rintro f1 ts h clk P ⟨g0,g1,g2,t,o3,o4,q1,q2,q3,q6,q7,q8,rfl,ht⟩ he hr
  dsimp only at q1 q2 q3 q6 q7 q8
  rw[List.take_length]
  simp only[go_sem,k7j,q1,q2,q3,q6,q7,q8,hB,f1,List.length_map]
  refine he _ _ ?_
  simp only[go_sem,q6,q7,hB,z0m,z0l,z0g]
  rw[z2q rfl (by simp[-List.map_map,AV.cv,cvL,AV.ids,idsL,z0b z1f,z0b z1k,z0b z0x,z0b z4f])]
  exact hT _
theorem j5q {s:Sys} {a:List Nat} (hl:s.clauses.length≤2 ^ 18):Pure Gam 54 [z1b s, .str a] (.sl ((cls s a).map nat) .no):=by
 refine Pure.of rfl g1z rfl rfl rfl (az:=[z1b s, .str a]) rfl (by simp[idsL,AV.ids,z2k]) fun D B clk T hB hT=> ?_
 simp only[go_sem,u6s,hB,z1b,List.length_map]
 refine z2y s.clauses.length (by omega) (fun i q=>∃ (g0:Nat) (t:Tip) (o1 o2:AObj),q.ts 1= .str a∧q.ts 2= .ptr (B + 0) g0 0 0∧q.ts 5= .sl ((clI s a i).map nat) t∧q.ts 6= .int .i64 (i:Int)∧q.h=D++[.blk g0 [.agg [.sl (s.preds.map z1e) .no, .sl (s.clauses.map z0e) .no]] false false 0,o1,o2]∧z7x B 2 o2 t 1) ⟨_, .nil,_,_,rfl,rfl,rfl,rfl,rfl, .inl rfl⟩ ?_ ?_
 ·rintro i hlt f1 f2 ts h clk P ⟨g0,t,o1,o2,q1,q2,q5,q6,rfl,ht⟩ hnx he hr
  dsimp only at q1 q2 q5 q6
  have hix:=fun h=>z5j (l:=s.clauses) (i:=i) (h:=h) (t:= .no) (k:= .i64) hlt
  have hc:=j5p (s:=s) (a:=a) (n:=i)
  have hg:=fun {L gen}=>x6a (D:=D) (L:=L) (B:=B) (k:=2) (gen:=gen) (i:=i) (xs:=clI s a i) (t:=t) (o:=o2) hB
  have hll:(clI s a i).length≤2 ^ 20:=Nat.le_trans q6r (by omega)
  rw[x5z hlt] at hc
  generalize s.clauses[i]=c at *
  cases hd:decide (c.head.pred=a) with
  | true=>
    rw[if_pos (of_decide_eq_true hd)] at hc
    simp only[go_sem,k1q,q1,q2,q5,q6,hB,f1,List.length_map,hix,hd]
    rw[hg rfl ht hll,←hc]
    simp only[go_sem,q1,q2,q5,q6,f2]
    exact hnx _ ⟨_,_,_,_,q1,q2,rfl,rfl,rfl, .inr (.inr ⟨_,rfl,rfl⟩)⟩
  | false=>
    rw[if_neg (of_decide_eq_false hd),List.append_nil] at hc
    simp only[go_sem,k1q,q1,q2,q5,q6,hB,f1,f2,List.length_map,hix,hd]
    exact hnx _ ⟨_,t,_,_,q1,q2,by rw[hc];exact q5,rfl,rfl,ht⟩
 ·rintro f1 ts h clk P ⟨g0,t,o1,o2,q1,q2,q5,q6,rfl,ht⟩ he hr
  dsimp only at q1 q2 q5 q6
  simp only[go_sem,k1q,q1,q2,q5,q6,hB,f1,List.length_map]
  refine he _ _ ?_
  simp only[go_sem,q5]
  rw[z2q rfl (by simp[AV.cv,AV.ids,z6m])]
  exact hT _
theorem k4l {h:List AObj} {v w:Var}:z6w h .neq (.agg [.str, .int]) (.agg [.str v.name, .int .i64 (v.sort:Int)]) (.agg [.str w.name, .int .i64 (w.sort:Int)])=some (.bool (!decide (v=w)),h):=by
 obtain⟨a,b⟩:=v
 obtain⟨c,d⟩:=w
 by_cases h1:a=c <;> by_cases h2:b=d <;> simp[z6w,z4k,AV.eqv,eqL,AV.eq1,h1,h2,Int.ofNat_inj]
theorem x6c {α:Type} [DecidableEq α] {xs ys:List α} (h:decide (xs.length=ys.length)=false):decide (xs=ys)=false:=decide_eq_false fun e=>of_decide_eq_false h (by rw[e])
theorem k4m {a b:App} (ha:SmA a) (hb:SmA b):Pure Gam 158 [z1p a,z1p b] (.bool (decide (a=b))):=by
 have e0:decide (a=b)=(decide (a.pred=b.pred) && decide (a.args=b.args)):=by cases a;cases b;simp
 have hal:=ha.1
 have hbl:=hb.1
 rw[e0]
 refine Pure.of rfl u1j rfl rfl rfl (az:=[z1p a,z1p b]) rfl (by simp[idsL,z4f]) fun D B clk T hB hT=> ?_
 cases h:decide (a.pred=b.pred) with
 | false=>
   rw[h] at hT
   simp only[go_sem,k7m,hB,z1p,h,Bool.not_false]
   rw[z0d]
   exact hT _
 | true=>
   rw[h,Bool.true_and] at hT
   cases hlen:decide (a.args.length=b.args.length) with
   | false=>
     rw[x6c hlen] at hT
     simp only[go_sem,k7m,hB,z1p,h,Bool.not_true,List.length_map,z5r,hlen,Bool.not_false]
     rw[z0d]
     exact hT _
   | true=>
     have hlen':=of_decide_eq_true hlen
     simp only[go_sem,k7m,hB,z1p,h,Bool.not_true,List.length_map,z5r,hlen]
     refine z2y a.args.length (by omega) (fun i q=>∃ (g0 g1:Nat),a.args.take i=b.args.take i∧q.ts 2= .ptr (B + 0) g0 0 0∧q.ts 3= .ptr (B + 1) g1 0 0∧q.ts 5= .int .i64 (i:Int)∧q.h=D++[.blk g0 [z1p a] false false 0, .blk g1 [z1p b] false false 0]) ⟨_,_,by simp,rfl,rfl,rfl,rfl⟩ ?_ ?_
     ·rintro i hlt f1 f2 ts h clk P ⟨g0,g1,he0,q2,q3,q5,rfl⟩ hnx he hr
      dsimp only at q2 q3 q5
      have hlt2:i < b.args.length:=by omega
      have hx:∀ h,z1n h 1 (.sl (a.args.map z0i) .no) (.int .i64 (i:Int))=some (.iptr [.sl (a.args[i].map eNode) .no] 0,h):=fun h=>q1e hlt
      have hy:∀ h,z1n h 1 (.sl (b.args.map z0i) .no) (.int .i64 (i:Int))=some (.iptr [.sl (b.args[i].map eNode) .no] 0,h):=fun h=>q1e hlt2
      have p1:=k4i (t:=a.args[i]) (u:=b.args[i]) (v:= .no) (w:= .no) (ha.2 _ (List.getElem_mem hlt))
      cases hc:decide (a.args[i]=b.args[i]) with
      | true=>
        rw[hc] at p1
        simp only[go_sem,x8w,hB,z1p,q2,q3,q5,f1,f2,List.length_map,hx,hy,z0a p1,Bool.not_true]
        exact hnx _ ⟨g0,g1,j8t hlt hlt2 he0 (of_decide_eq_true hc),q2,q3,rfl,rfl⟩
      | false=>
        rw[hc] at p1
        simp only[go_sem,x8w,hB,z1p,q2,q3,q5,f1,f2,List.length_map,hx,hy,z0a p1,Bool.not_false]
        refine hr _ ?_
        rw[decide_eq_false fun e:a.args=b.args=>of_decide_eq_false hc (by simp only[e])] at hT
        simp only[go_sem,]
        rw[z0d]
        exact hT _
     ·rintro f1 ts h clk P ⟨g0,g1,he0,q2,q3,q5,rfl⟩ he hr
      dsimp only at q2 q3 q5
      simp only[go_sem,x8w,hB,z1p,q2,q3,q5,List.length_map,f1]
      refine he _ _ ?_
      rw[List.take_length,hlen',List.take_length] at he0
      rw[decide_eq_true he0] at hT
      simp only[go_sem,]
      rw[z0d]
      exact hT _
theorem k4n {c d:Clause}:decide (c=d)=(decide (c.vars=d.vars) && (decide (c.body=d.body) && (decide (c.guard=d.guard) && decide (c.head=d.head)))):=by
 cases c;cases d
 simp only[Clause.mk.injEq,Bool.decide_and]
theorem y4v {c d:Clause} (hc:CmpC c) (hd:CmpC d):Pure Gam 93 [z0e c,z0e d] (.bool (decide (c=d))):=by
 have p1:=k4i (t:=c.guard) (u:=d.guard) (v:= .no) (w:= .no) hc.guard
 have p2:=k4m hc.head hd.head
 have hcv:=hc.vars
 have hcb:=hc.body
 simp only[z1p] at p2
 rw[k4n]
 refine Pure.of rfl g2b rfl rfl rfl (az:=[z0e c,z0e d]) rfl (by simp[idsL,z1j]) fun D B clk T hB hT=> ?_
 cases hl1:decide (c.vars.length=d.vars.length) with
 | false=>
   rw[x6c hl1] at hT
   simp only[go_sem,w4f,hB,z0e,z0i,List.length_map,z5r,hl1,Bool.not_false]
   rw[z0d]
   exact hT _
 | true=>
 cases hl2:decide (c.body.length=d.body.length) with
 | false=>
   rw[x6c hl2,Bool.false_and,Bool.and_false] at hT
   simp only[go_sem,w4f,hB,z0e,z0i,List.length_map,z5r,hl1,hl2,Bool.not_false,Bool.not_true]
   rw[z0d]
   exact hT _
 | true=>
 cases hg:decide (c.guard=d.guard) with
 | false=>
   rw[hg,Bool.false_and,Bool.and_false,Bool.and_false] at hT
   rw[hg] at p1
   simp only[go_sem,w4f,hB,z0e,z0i,List.length_map,z5r,hl1,hl2,z0a p1,Bool.not_false,Bool.not_true]
   rw[z0d]
   exact hT _
 | true=>
 cases hh:decide (c.head=d.head) with
 | false=>
   rw[hh,Bool.and_false,Bool.and_false,Bool.and_false] at hT
   rw[hg] at p1
   rw[hh] at p2
   simp only[go_sem,w4f,hB,z0e,z0i,List.length_map,z5r,hl1,hl2,z0a p1,z0a p2,Bool.not_false,Bool.not_true]
   rw[z0d]
   exact hT _
 | true=>
 rw[hg,hh,Bool.and_true,Bool.and_true] at hT
 rw[hg] at p1
 rw[hh] at p2
 have hl1':=of_decide_eq_true hl1
 have hl2':=of_decide_eq_true hl2
 simp only[go_sem,w4f,hB,z0e,z0i,List.length_map,z5r,hl1,hl2,z0a p1,z0a p2,Bool.not_true]
 refine z2y c.vars.length (by omega) (fun i q=>∃ (g0 g1:Nat),c.vars.take i=d.vars.take i∧q.ts 2= .ptr (B + 0) g0 0 0∧q.ts 3= .ptr (B + 1) g1 0 0∧q.ts 5= .int .i64 (i:Int)∧q.h=D++[.blk g0 [z0e c] false false 0, .blk g1 [z0e d] false false 0]) ⟨_,_,by simp,rfl,rfl,rfl,rfl⟩ ?_ ?_
 ·rintro i hlt f1 f2 ts h clk P ⟨g0,g1,he0,q2,q3,q5,rfl⟩ hnx he hr
  dsimp only at q2 q3 q5
  have hlt2:i < d.vars.length:=by omega
  have hx:∀ h,z1n h 2 (.sl (c.vars.map z1h) .no) (.int .i64 (i:Int))=some (.iptr [.str c.vars[i].name, .int .i64 (c.vars[i].sort:Int)] 0,h):=fun h=>z3j hlt rfl rfl
  have hy:∀ h,z1n h 2 (.sl (d.vars.map z1h) .no) (.int .i64 (i:Int))=some (.iptr [.str d.vars[i].name, .int .i64 (d.vars[i].sort:Int)] 0,h):=fun h=>z3j hlt2 rfl rfl
  cases hcd:decide (c.vars[i]=d.vars[i]) with
  | true=>
    simp only[go_sem,k7l,hB,z0e,z0i,q2,q3,q5,f1,f2,List.length_map,hx,hy,k4l,hcd,Bool.not_true]
    exact hnx _ ⟨g0,g1,j8t hlt hlt2 he0 (of_decide_eq_true hcd),q2,q3,rfl,rfl⟩
  | false=>
    simp only[go_sem,k7l,hB,z0e,z0i,q2,q3,q5,f1,f2,List.length_map,hx,hy,k4l,hcd,Bool.not_false]
    refine hr _ ?_
    rw[decide_eq_false fun e:c.vars=d.vars=>of_decide_eq_false hcd (by simp only[e])] at hT
    simp only[go_sem,]
    rw[z0d]
    exact hT _
 ·rintro f1 ts h clk P ⟨g0,g1,he0,q2,q3,q5,rfl⟩ he hr
  dsimp only at q2 q3 q5
  simp only[go_sem,k7l,hB,z0e,z0i,q2,q3,q5,List.length_map,f1]
  refine he _ _ ?_
  rw[List.take_length,hl1',List.take_length] at he0
  rw[decide_eq_true he0,Bool.true_and] at hT
  simp only[go_sem,]
  refine z2y c.body.length (by omega) (fun i q=>c.body.take i=d.body.take i∧q.ts 2= .ptr (B + 0) g0 0 0∧q.ts 3= .ptr (B + 1) g1 0 0∧q.ts 6= .int .i64 (i:Int)∧q.h=D++[.blk g0 [z0e c] false false 0, .blk g1 [z0e d] false false 0]) ⟨by simp,by simp[z0c,q2],by simp[z0c,q3],by simp[z0c],by simp only[z0e,z0i]⟩ ?_ ?_
  ·clear q2 q3 q5 f1
   rintro i hlt f1 f2 ts h clk P ⟨he0,q2,q3,q6,rfl⟩ hnx he hr
   dsimp only at q2 q3 q6
   have hlt2:i < d.body.length:=by omega
   have hx:=fun h=>q2p (l:=c.body) (i:=i) (h:=h) (t:= .no) (k:= .i64) hlt
   have hy:=fun h=>q2p (l:=d.body) (i:=i) (h:=h) (t:= .no) (k:= .i64) hlt2
   have p3:=k4m (hc.atoms _ (List.getElem_mem hlt)) (hd.atoms _ (List.getElem_mem hlt2))
   simp only[z1p] at p3
   cases hcd:decide (c.body[i]=d.body[i]) with
   | true=>
     rw[hcd] at p3
     simp only[go_sem,k7k,hB,z0e,z0i,q2,q3,q6,f1,f2,List.length_map,hx,hy,z0a p3,Bool.not_true]
     exact hnx _ ⟨j8t hlt hlt2 he0 (of_decide_eq_true hcd),q2,q3,rfl,rfl⟩
   | false=>
     rw[hcd] at p3
     simp only[go_sem,k7k,hB,z0e,z0i,q2,q3,q6,f1,f2,List.length_map,hx,hy,z0a p3,Bool.not_false]
     refine hr _ ?_
     rw[decide_eq_false fun e:c.body=d.body=>of_decide_eq_false hcd (by simp only[e])] at hT
     simp only[go_sem,]
     rw[z0d]
     exact hT _
  ·clear q2 q3 q5 f1
   rintro f1 ts h clk P ⟨he0,q2,q3,q6,rfl⟩ he hr
   dsimp only at q2 q3 q6
   simp only[go_sem,k7k,hB,z0e,z0i,q2,q3,q6,List.length_map,f1]
   refine he _ _ ?_
   rw[List.take_length,hl2',List.take_length] at he0
   rw[decide_eq_true he0] at hT
   simp only[go_sem,]
   rw[z0d]
   exact hT _
theorem j2q {p q:List Nat} {c:Clause} (h:CmpC c):CmpC (q0q p q c):=by
 refine⟨h.vars,by simp[q0q,h.body],h.guard,h.head,fun a ha=> ?_⟩
 obtain⟨b,hb,rfl⟩:=List.mem_map.1 ha
 exact h.atoms b hb
theorem x6d {ps:List Func} (hn:(ps.map (·.name)).Nodup) {i k:Nat} (hi:i < ps.length) (hk:k < ps.length) (h:i≠k):ps[i].name≠ps[k].name:=fun e=>by
 have hp:=List.pairwise_iff_getElem.1 hn
 rcases Nat.lt_or_gt_of_ne h with h | h
 ·exact hp i k (by simpa using hi) (by simpa using hk) h (by simpa using e)
 ·exact hp k i (by simpa using hk) (by simpa using hi) h (by simpa using e.symm)
theorem v4q {s:Sys} {i k:Nat} (hl:s.clauses.length≤2 ^ 18) (hc:∀ c∈s.clauses,CmpC c) (hn:(s.preds.map (·.name)).Nodup) (hpa:∀ f∈s.preds,f.args.length≤20000) (hpl:s.preds.length≤1000) (hi:i < s.preds.length) (hk:k < s.preds.length):Pure Gam 49 [z1b s,nat i,nat k] (.bool (z9f s s.preds[i] s.preds[k])):=by
 have hix:=fun h=>z4u (l:=s.preds) (i:=i) (h:=h) (t:= .no) (k:= .i64) hi
 have hkx:=fun h=>z4u (l:=s.preds) (i:=k) (h:=h) (t:= .no) (k:= .i64) hk
 have p1:=y4u (xs:=s.preds[i].args) (ys:=s.preds[k].args) (u:= .no) (v:= .no) (hpa _ (List.getElem_mem hi)) (hpa _ (List.getElem_mem hk))
 have hne:i≠k→s.preds[i].name≠s.preds[k].name:=x6d hn hi hk
 have heq:i=k→s.preds[i].name=s.preds[k].name:=fun h=>by subst h;rfl
 generalize s.preds[i]=p at *
 generalize s.preds[k]=q at *
 have p2:=j5q (s:=s) (a:=p.name) hl
 have p3:=j5q (s:=s) (a:=q.name) hl
 simp only[z1b] at p2 p3
 refine Pure.of rfl g2c rfl rfl rfl (az:=[z1b s,nat i,nat k]) rfl (by simp[idsL,z2k,z3q]) fun D B clk T hB hT=> ?_
 unfold z9f at hT
 cases h1:decide (i=k) with
 | true=>
   rw[decide_eq_true (heq (of_decide_eq_true h1))] at hT
   simp only[go_sem,w9o,hB,z1b,nat,z5r,h1]
   rw[z0d]
   exact hT _
 | false=>
 rw[decide_eq_false (hne (of_decide_eq_false h1)),Bool.not_false,Bool.true_and] at hT
 cases h2:decide (p.args=q.args) with
 | false=>
   rw[h2] at hT p1
   simp only[go_sem,w9o,hB,z1b,nat,z5r,h1,hix,hkx,z0a p1,Bool.not_false]
   rw[z0d]
   exact hT _
 | true=>
 rw[h2,Bool.true_and] at hT
 rw[h2] at p1
 have hal:(cls s p.name).length≤2 ^ 20:=Nat.le_trans q6r (by omega)
 have hbl:(cls s q.name).length≤2 ^ 20:=Nat.le_trans q6r (by omega)
 have hat:∀ j∈cls s p.name,j < s.clauses.length:=fun j hj=>x3y hj
 have hbt:∀ j∈cls s q.name,j < s.clauses.length:=fun j hj=>x3y hj
 generalize cls s p.name=a at *
 generalize cls s q.name=b at *
 cases h3:decide (a.length=b.length) with
 | false=>
   rw[decide_eq_false fun e=>of_decide_eq_false h3 (by simpa using congrArg List.length e)] at hT
   simp only[go_sem,w9o,hB,z1b,nat,z5r,h1,hix,hkx,z0a p1,z0a p2,z0a p3,Bool.not_true,z0y]
   refine⟨by simp[z0v,apart,z0h,z0s,z0w,AOp.isCall,hB,AV.ids,idsL,z0b z2a,z0b z1j,z6m], ?_⟩
   simp only[go_sem,hB,List.length_map,z5r,h3,Bool.not_false]
   rw[z0d]
   exact hT _
 | true=>
 have h3':=of_decide_eq_true h3
 simp only[go_sem,w9o,hB,z1b,nat,z5r,h1,hix,hkx,z0a p1,z0a p2,z0a p3,Bool.not_true,z0y]
 refine⟨by simp[z0v,apart,z0h,z0s,z0w,AOp.isCall,hB,AV.ids,idsL,z0b z2a,z0b z1j,z6m], ?_⟩
 simp only[go_sem,hB,List.length_map,z5r,h3,Bool.not_true]
 refine z2y a.length (by omega) (fun j r=>∃ (g0:Nat),(a.take j).map (fun i=>q0q p.name q.name (q4l s i))=(b.take j).map (fun i=>q0q p.name q.name (q4l s i))∧r.ts 1= .int .i64 (i:Int)∧r.ts 2= .int .i64 (k:Int)∧r.ts 3= .ptr (B + 0) g0 0 0∧r.ts 7= .sl (a.map nat) .no∧r.ts 8= .sl (b.map nat) .no∧r.ts 9= .int .i64 (j:Int)∧r.h=D++[.blk g0 [z1b s] false false 0]) ⟨_,by simp,by rfl,by rfl,rfl,rfl,rfl,rfl,rfl⟩ ?_ ?_
 ·rintro j hlt f1 f2 ts h clk P ⟨g0,he0,q1,q2,q3,q7,q8,q9,rfl⟩ hnx he hr
  dsimp only at q1 q2 q3 q7 q8 q9
  have hlt2:j < b.length:=by omega
  have hx:=fun h=>z7y (l:=a) (i:=j) (h:=h) (t:= .no) (k:= .i64) hlt
  have hy:=fun h=>z7y (l:=b) (i:=j) (h:=h) (t:= .no) (k:= .i64) hlt2
  have ha':=hat _ (List.getElem_mem hlt)
  have hb':=hbt _ (List.getElem_mem hlt2)
  have hst:q0q p.name q.name (q4l s a[j])=q0q p.name q.name (q4l s b[j])→(a.take (j + 1)).map (fun i=>q0q p.name q.name (q4l s i))=(b.take (j + 1)).map (fun i=>q0q p.name q.name (q4l s i)):=fun e=>by
   rw[List.take_succ_eq_append_getElem hlt,List.take_succ_eq_append_getElem hlt2,List.map_append,List.map_append,he0,List.map_singleton,List.map_singleton,e]
  have hbad:q0q p.name q.name (q4l s a[j])≠q0q p.name q.name (q4l s b[j])→a.map (fun i=>q0q p.name q.name (q4l s i))≠b.map (fun i=>q0q p.name q.name (q4l s i)):=fun e h=>e (by
   have:=congrArg (fun l=>l[j]?) h
   simpa [hlt,hlt2] using this)
  simp only[nat] at hx hy
  generalize a[j]=u at *
  generalize b[j]=v at *
  rw[q6s ha',q6s hb'] at hst hbad
  have hu:=fun h=>z5j (l:=s.clauses) (i:=u) (h:=h) (t:= .no) (k:= .i64) ha'
  have hv:=fun h=>z5j (l:=s.clauses) (i:=v) (h:=h) (t:= .no) (k:= .i64) hb'
  have c1:=hc _ (List.getElem_mem ha')
  have c2:=hc _ (List.getElem_mem hb')
  generalize s.clauses[u]=c at *
  generalize s.clauses[v]=d at *
  have r1:=k4k (p:=p.name) (q:=q.name) c1.body
  have r2:=k4k (p:=p.name) (q:=q.name) c2.body
  have r3:=y4v (j2q (p:=p.name) (q:=q.name) c1) (j2q (p:=p.name) (q:=q.name) c2)
  cases hcd:decide (q0q p.name q.name c=q0q p.name q.name d) with
  | true=>
    have:=hst (of_decide_eq_true hcd)
    rw[hcd] at r3
    generalize q0q p.name q.name c=c' at *
    generalize q0q p.name q.name d=d' at *
    simp only[z0e,z0i] at r1 r2 r3
    simp only[go_sem,k7n,z1b,q1,q2,q3,q7,q8,q9,hB,f1,f2,List.length_map,hx,hy,hu,hv,hix,hkx,z0y,z0a r1,z0a r2,z0a r3,Bool.not_true]
    refine⟨by simp[z0v,apart,z0h,z0s,z0w,AOp.isCall,hB,AV.ids,idsL,z0b z2a,z0b z1j,z6m,z0b z1k,z0b z4f,z0b z0x,z0b z1f], ?_⟩
    exact hnx _ ⟨g0,this,q1,q2,q3,q7,q8,rfl,rfl⟩
  | false=>
    rw[decide_eq_false (hbad (of_decide_eq_false hcd))] at hT
    rw[hcd] at r3
    generalize q0q p.name q.name c=c' at *
    generalize q0q p.name q.name d=d' at *
    simp only[z0e,z0i] at r1 r2 r3
    simp only[go_sem,k7n,z1b,q1,q2,q3,q7,q8,q9,hB,f1,f2,List.length_map,hx,hy,hu,hv,hix,hkx,z0y,z0a r1,z0a r2,z0a r3,Bool.not_false]
    refine⟨by simp[z0v,apart,z0h,z0s,z0w,AOp.isCall,hB,AV.ids,idsL,z0b z2a,z0b z1j,z6m,z0b z1k,z0b z4f,z0b z0x,z0b z1f], ?_⟩
    refine hr _ ?_
    simp only[go_sem,]
    rw[z0d]
    exact hT _
 ·rintro f1 ts h clk P ⟨g0,he0,q1,q2,q3,q7,q8,q9,rfl⟩ he hr
  dsimp only at q1 q2 q3 q7 q8 q9
  simp only[go_sem,k7n,q7,q9,List.length_map,f1]
  refine he _ _ ?_
  rw[List.take_length,h3',List.take_length] at he0
  rw[decide_eq_true he0] at hT
  simp only[go_sem,]
  rw[z0d]
  exact hT _
end Go.Proofs.YtdfepmffiampgaaGreatDoor.Am
