/- Walking: rows are compared by a function Walking: clauses are compared after a predicate was renamed Walking: predicates match Walking: terms are compared Walking: predicates match Walking: clauses ar -/
import Derived.Test.YtahdahokpjigiaaGreatDoorM35
set_option linter.all false
namespace Go.Proofs.YtahdahokpjigiaaGreatDoor.Am
open Go
set_option maxRecDepth 100000
section
open Sh
theorem Reads.pure {f:Nat} {args:List AV} {v:AV} (hr:Reads [] f args v):Pure Gam f args v:=fun h clk=>by
 obtain⟨h1,h2⟩:=hr h clk Has.nil
 refine⟨h1,List.eq_nil_iff_forall_not_mem.2 fun x hx=> ?_⟩
 simpa using h2 x hx
section
variable {α β:Type} {xs:List α} {ys:List β} {P:α→β→Bool} {i:Nat}
theorem g0z (hx:i < xs.length) (hy:i < ys.length):(xs.zip ys).take (i + 1)=(xs.zip ys).take i++[(xs[i],ys[i])]:=by
 have hz:i < (xs.zip ys).length:=by rw[List.length_zip];omega
 rw[List.take_succ_eq_append_getElem hz,List.getElem_zip]
theorem u7x (hx:i < xs.length) (hy:i < ys.length) (h:P xs[i] ys[i]=false):((xs.zip ys).all fun p=>P p.1 p.2)=false:=by
 have hz:i < (xs.zip ys).length:=by rw[List.length_zip];omega
 rw[List.all_eq_false]
 exact⟨(xs[i],ys[i]),by rw[←List.getElem_zip (h:=hz)];exact List.getElem_mem hz,by rw[h];simp⟩
end
theorem u7n {α γ:Type} [DecidableEq γ]:∀ {xs ys:List α} {g:α→γ},(decide (xs.length=ys.length) && (xs.zip ys).all fun p=>decide (g p.1=g p.2))=decide (xs.map g=ys.map g)
 | [],[],_=>by simp
 | [],_::_,_=>by simp
 | _::_,[],_=>by simp
 | x::xs,y::ys,g=>by
   have ih:=u7n (xs:=xs) (ys:=ys) (g:=g)
   simp only[List.length_cons,Nat.add_right_cancel_iff,List.zip_cons_cons,List.all_cons,List.map_cons,List.cons.injEq,Bool.decide_and]
   rw[←ih]
   cases decide (g x=g y) <;> simp
theorem g2t {α β:Type} {enc:α→AV} {enc':β→AV} {f c:Nat} {xs:List α} {ys:List β} {S:List (Nat×AObj)} {cap:List AV} {P:α→β→Bool} {t u:Tip} (hext:Gam.ext f=none) (hfn:Gam.fn f=some g2o) (hE:∀ x,(enc x).cells.length=1) (hE':∀ x,(enc' x).cells.length=1) (hld:∀ x h,q1u h none (.iptr (enc x).cells 0)=some (enc x,h)) (hld':∀ x h,q1u h none (.iptr (enc' x).cells 0)=some (enc' x,h)) (hid:∀ x,(enc x).ids=[]) (hid':∀ x,(enc' x).ids=[]) (hl:xs.length≤2 ^ 20) (hC:Cov S (idsL cap)) (hP:∀ x∈xs,∀ y∈ys,Reads S c (enc x::enc' y::cap) (.bool (P x y))):
  Reads S f [.sl (xs.map enc) t, .sl (ys.map enc') u, .fn c cap] (.bool (decide (xs.length=ys.length) && (xs.zip ys).all fun p=>P p.1 p.2)):=by
 have hC':Cov S (idsL [.sl (xs.map enc) .no, .sl (ys.map enc') .no, .fn c cap]):=by
  have:idsL [.sl (xs.map enc) .no, .sl (ys.map enc') .no, .fn c cap]=idsL cap:=by simp[idsL,AV.ids,z0c hid,z0c hid']
  rw[this];exact hC
 refine Reads.of hext hfn rfl rfl rfl (az:=[.sl (xs.map enc) .no, .sl (ys.map enc') .no, .fn c cap]) rfl hC' fun D B clk T hB hS hlt hT=> ?_
 cases hlen:decide (xs.length=ys.length) with
 | true=>
   have hlen':xs.length=ys.length:=of_decide_eq_true hlen
   rw[hlen,Bool.true_and] at hT
   simp only[go_sem,g2o,List.length_map,u6g,hlen,Bool.not_true]
   refine z6z xs.length (by omega) (fun i q=>(∀ p∈(xs.zip ys).take i,P p.1 p.2=true)∧q.ts 1= .sl (ys.map enc') .no∧q.ts 2= .fn c cap∧q.ts 15= .sl (xs.map enc) .no∧q.ts 16= .int .i64 (xs.length:Int)∧q.ts 17= .int .i64 (i:Int)∧q.h=D++[]) ⟨by simp,rfl,rfl,rfl,rfl,rfl,rfl⟩ ?_ ?_
   ·rintro i hi f1 f2 ts h clk Q ⟨hp,q1,q2,q15,q16,q17,rfl⟩ hnx he hr
    dsimp only at q1 q2 q15 q16 q17
    have hi2:i < ys.length:=by omega
    have hx:=fun h=>u6u (enc:=enc) (t:= .no) (k:= .i64) (h:=h) hE hi
    have hy:=fun h=>u6u (enc:=enc') (t:= .no) (k:= .i64) (h:=h) hE' hi2
    have hc:=hP _ (List.getElem_mem hi) _ (List.getElem_mem hi2)
    cases hb:P xs[i] ys[i] with
    | true=>
      rw[hb] at hc
      simp only[go_sem,u9z,q1,q2,q15,q16,q17,f1,f2,hx,hy,hld,hld',z0w hc hS.app,Bool.not_true]
      refine hnx _ ⟨fun p hp'=> ?_,q1,q2,q15,q16,rfl,rfl⟩
      rw[g0z hi hi2,List.mem_append,List.mem_singleton] at hp'
      rcases hp' with hp' | rfl
      ·exact hp p hp'
      ·exact hb
    | false=>
      rw[hb] at hc
      simp only[go_sem,u9z,q1,q2,q15,q16,q17,f1,f2,hx,hy,hld,hld',z0w hc hS.app,Bool.not_false]
      refine hr _ ?_
      rw[u7x hi hi2 hb] at hT
      simp only[go_sem,]
      rw[z0e]
      exact hT _ hS.app
   ·rintro f1 ts h clk Q ⟨hp,q1,q2,q15,q16,q17,rfl⟩ he hr
    dsimp only at q1 q2 q15 q16 q17
    simp only[go_sem,u9z,q1,q2,q15,q16,q17,f1]
    refine he _ _ ?_
    rw[List.take_of_length_le (by rw[List.length_zip];omega)] at hp
    rw[List.all_eq_true.2 hp] at hT
    simp only[go_sem,]
    rw[z0e]
    exact hT _ hS.app
 | false=>
   rw[hlen,Bool.false_and] at hT
   simp only[go_sem,g2o,List.length_map,u6g,hlen,Bool.not_false]
   rw[z0e]
   exact hT _ hS.app
theorem g0j {c:Nat} {xs ys:List App} {S:List (Nat×AObj)} {cap:List AV} {P:App→App→Bool} {t u:Tip} (hl:xs.length≤2 ^ 20) (hC:Cov S (idsL cap)) (hP:∀ x∈xs,∀ y∈ys,Reads S c (z3x x::z3x y::cap) (.bool (P x y))):
  Reads S 207 [.sl (xs.map z3x) t, .sl (ys.map z3x) u, .fn c cap] (.bool (decide (xs.length=ys.length) && (xs.zip ys).all fun p=>P p.1 p.2)):=by
 have hC':Cov S (idsL [.sl (xs.map z3x) .no, .sl (ys.map z3x) .no, .fn c cap]):=by
  have:idsL [.sl (xs.map z3x) .no, .sl (ys.map z3x) .no, .fn c cap]=idsL cap:=by simp[idsL,AV.ids,z0c z4w]
  rw[this];exact hC
 refine Reads.of rfl g3v rfl rfl rfl (az:=[.sl (xs.map z3x) .no, .sl (ys.map z3x) .no, .fn c cap]) rfl hC' fun D B clk T hB hS hlt hT=> ?_
 cases hlen:decide (xs.length=ys.length) with
 | true=>
   have hlen':xs.length=ys.length:=of_decide_eq_true hlen
   rw[hlen,Bool.true_and] at hT
   simp only[go_sem,g1k,hB,List.length_map,u6g,hlen,Bool.not_true]
   refine z6z xs.length (by omega) (fun i q=>∃ o0 o1,(∀ p∈(xs.zip ys).take i,P p.1 p.2=true)∧q.ts 1= .sl (ys.map z3x) .no∧q.ts 2= .fn c cap∧q.ts 15= .sl (xs.map z3x) .no∧q.ts 16= .int .i64 (xs.length:Int)∧q.ts 17= .int .i64 (i:Int)∧q.h=D++[o0,o1]) ⟨_,_,by simp,rfl,rfl,rfl,rfl,rfl,rfl⟩ ?_ ?_
   ·rintro i hi f1 f2 ts h clk Q ⟨o0,o1,hp,q1,q2,q15,q16,q17,rfl⟩ hnx he hr
    dsimp only at q1 q2 q15 q16 q17
    have hi2:i < ys.length:=by omega
    have hx:=fun h=>j1a (t:= .no) (k:= .i64) (h:=h) hi
    have hy:=fun h=>j1a (t:= .no) (k:= .i64) (h:=h) hi2
    have hc:=hP _ (List.getElem_mem hi) _ (List.getElem_mem hi2)
    simp only[z3x] at hc
    cases hb:P xs[i] ys[i] with
    | true=>
      rw[hb] at hc
      simp only[go_sem,u8j,hB,q1,q2,q15,q16,q17,f1,f2,hx,hy,z0w hc hS.app,Bool.not_true]
      refine hnx _ ⟨_,_,fun p hp'=> ?_,q1,q2,q15,q16,rfl,rfl⟩
      rw[g0z hi hi2,List.mem_append,List.mem_singleton] at hp'
      rcases hp' with hp' | rfl
      ·exact hp p hp'
      ·exact hb
    | false=>
      rw[hb] at hc
      simp only[go_sem,u8j,hB,q1,q2,q15,q16,q17,f1,f2,hx,hy,z0w hc hS.app,Bool.not_false]
      refine hr _ ?_
      rw[u7x hi hi2 hb] at hT
      simp only[go_sem,]
      rw[z0e]
      exact hT _ hS.app
   ·rintro f1 ts h clk Q ⟨o0,o1,hp,q1,q2,q15,q16,q17,rfl⟩ he hr
    dsimp only at q1 q2 q15 q16 q17
    simp only[go_sem,u8j,q1,q2,q15,q16,q17,f1]
    refine he _ _ ?_
    rw[List.take_of_length_le (by rw[List.length_zip];omega)] at hp
    rw[List.all_eq_true.2 hp] at hT
    simp only[go_sem,]
    rw[z0e]
    exact hT _ hS.app
 | false=>
   rw[hlen,Bool.false_and] at hT
   simp only[go_sem,g1k,hB,List.length_map,u6g,hlen,Bool.not_false]
   rw[z0e]
   exact hT _ hS.app
end
instance:DecidableEq App:=fun a b=>decidable_of_iff (a.pred=b.pred∧a.args=b.args) (by cases a;cases b;simp)
instance:DecidableEq Clause:=fun a b=>decidable_of_iff (a.vars=b.vars∧a.guard=b.guard∧a.head=b.head∧a.body=b.body) (by cases a;cases b;simp only[Clause.mk.injEq];exact⟨fun ⟨h1,h2,h3,h4⟩=>⟨h1,h4,h2,h3⟩,fun ⟨h1,h2,h3,h4⟩=>⟨h1,h3,h4,h2⟩⟩)
def u6j (p q:List Nat) (a:App):App:=⟨if a.pred=p then q else a.pred,a.args⟩
def u6m (p q:List Nat) (c:Clause):Clause:=⟨c.vars,c.body.map (u6j p q),c.guard,u6j p q c.head⟩
def u6t (p q:List Nat):AV:= .agg [.str p, .str q]
theorem g1p {p q:List Nat} {c d:Clause}:decide (u6m p q c=u6m p q d)=(decide (c.vars=d.vars) && (decide (c.guard=d.guard) && (decide (u6j p q c.head=u6j p q d.head) && decide (c.body.map (u6j p q)=d.body.map (u6j p q))))):=by
 simp only[u6m,Clause.mk.injEq]
 by_cases h1:c.vars=d.vars <;> by_cases h2:c.guard=d.guard <;> by_cases h3:u6j p q c.head=u6j p q d.head <;> by_cases h4:c.body.map (u6j p q)=d.body.map (u6j p q) <;> simp[h1,h2,h3,h4]
def SmA (a:App):Prop:=a.args.length≤20000∧∀ t∈a.args,t.length≤20000
theorem u7y {p q:List Nat} {a:App}:Pure Gam 40 [u6t p q,z3x a] (z3x (u6j p q a)):=by
 refine Pure.of rfl g6b rfl rfl rfl (az:=[u6t p q,z3x a]) rfl (by simp[idsL,AV.ids,u6t,z4w]) fun D B clk T hB hT=> ?_
 cases h:decide (a.pred=p) with
 | true=>
   simp only[go_sem,g3w,hB,u6t,z3x,h,z0n,z0m,z0g]
   rw[z2x rfl (by simp[AV.cv,cvL,AV.ids,idsL,z0c z2q])]
   simp only[u6j,if_pos (of_decide_eq_true h),z3x] at hT
   exact hT _
 | false=>
   simp only[go_sem,g3w,hB,u6t,z3x,h,z0n,z0m,z0g]
   rw[z2x rfl (by simp[AV.cv,cvL,AV.ids,idsL,z0c z2q])]
   simp only[u6j,if_neg (of_decide_eq_false h),z3x] at hT
   exact hT _
theorem g1q {t u:Term} (hl:t.length≤20000) (hl2:u.length≤20000):Pure Gam 268 [z0l t,z0l u] (.bool (decide (t=u))):=by
 have p1:=u9e (xs:=t) (ys:=u) (u:= .no) (v:= .no) (by omega) (by omega)
 refine Pure.of rfl g3u rfl rfl rfl (az:=[z0l t,z0l u]) rfl (by simp[idsL,z2q]) fun D B clk T hB hT=> ?_
 simp only[go_sem,g2r,z0l,z0a p1]
 rw[z0e]
 exact hT _
theorem u9f {a b:App} (ha:SmA a) (hb:SmA b):Pure Gam 206 [z3x a,z3x b] (.bool (decide (a=b))):=by
 have p1:Pure Gam 267 [.sl (a.args.map z0l) .no, .sl (b.args.map z0l) .no, .fn 268 []] (.bool (decide (a.args=b.args))):=by
  have:=(g2t (enc:=z0l) (enc':=z0l) (c:=268) (cap:=[]) (P:=fun t u=>decide (t=u)) (t:= .no) (u:= .no) (xs:=a.args) (ys:=b.args) rfl g4d (fun _=>rfl) (fun _=>rfl) (fun _ _=>rfl) (fun _ _=>rfl) z2q z2q (by have:=ha.1;omega) Cov.none (fun t ht u hu=>(g1q (ha.2 t ht) (hb.2 u hu)).reads)).pure
  have e:=u7n (xs:=a.args) (ys:=b.args) (g:=id)
  rw[List.map_id,List.map_id] at e
  rw[←e]
  exact this
 have e0:decide (a=b)=(decide (a.pred=b.pred) && decide (a.args=b.args)):=by cases a;cases b;simp
 rw[e0]
 refine Pure.of rfl g3t rfl rfl rfl (az:=[z3x a,z3x b]) rfl (by simp[idsL,z4w]) fun D B clk T hB hT=> ?_
 cases h:decide (a.pred=b.pred) with
 | true=>
   rw[h] at hT
   simp only[go_sem,g1j,hB,z3x,h,z0a p1]
   rw[z0e]
   exact hT _
 | false=>
   rw[h] at hT
   simp only[go_sem,g1j,hB,z3x,h]
   rw[z0e]
   exact hT _
theorem u8l {p q:List Nat} {a:App} (h:SmA a):SmA (u6j p q a):=h
theorem g0k {s g:Nat} {p q:List Nat} {a b:App} (ha:SmA a) (hb:SmA b):Reads [(s, .blk g [u6t p q] false false 0)] 208 [z3x a,z3x b, .ptr s g 0 0] (.bool (decide (u6j p q a=u6j p q b))):=by
 have p1:=u7y (p:=p) (q:=q) (a:=a)
 have p2:=u7y (p:=p) (q:=q) (a:=b)
 have p3:=u9f (u8l (p:=p) (q:=q) ha) (u8l (p:=p) (q:=q) hb)
 refine Reads.of rfl g3s rfl rfl rfl (az:=[z3x a,z3x b, .ptr s g 0 0]) rfl (by simpa [idsL,AV.ids,z4w] using Cov.one (by simp[AObj.ids,idsL,u6t,AV.ids])) fun D B clk T hB hS hlt hT=> ?_
 have hs:s < B:=hlt (s,_) List.mem_cons_self
 have hD:D[s]? =some (.blk g [u6t p q] false false 0):=hS (s,_) List.mem_cons_self
 have hs2:s < B + 2:=by omega
 have hbl:∀ L,z2a (D++L) s g=some ([u6t p q],false,false,0):=fun L=>by rw[z4e hB hs,z5z hD]
 simp only[z3x,u6t] at p1 p2 p3 hbl
 simp only[go_sem,g2q,hB,z3x,z1i,hbl,z0a p1,z0a p2,z0a p3]
 refine⟨by simp[z1f,apart,z0i,z1d,z1h,AOp.isCall,hB,AV.ids,idsL,z0c z2q,hs2], ?_⟩
 rw[z0e]
 exact hT _ hS.app
theorem g2u {p q:List Nat} {c d:Clause} (hc:CmpC c) (hd:CmpC d):Pure Gam 136 [u6t p q,z0f c,z0f d] (.bool (decide (u6m p q c=u6m p q d))):=by
 have p1:=g1o (xs:=c.vars) (ys:=d.vars) (u:= .no) (v:= .no) (by have:=hc.vars;omega) (by have:=hd.vars;omega)
 have p2:=u9e (xs:=c.guard) (ys:=d.guard) (u:= .no) (v:= .no) (by have:=hc.guard;omega) (by have:=hd.guard;omega)
 have p3:=u7y (p:=p) (q:=q) (a:=c.head)
 have p4:=u7y (p:=p) (q:=q) (a:=d.head)
 have p5:=u9f (u8l (p:=p) (q:=q) hc.head) (u8l (p:=p) (q:=q) hd.head)
 have p6:∀ s g,Reads [(s, .blk g [u6t p q] false false 0)] 207 [.sl (c.body.map z3x) .no, .sl (d.body.map z3x) .no, .fn 208 [.ptr s g 0 0]] (.bool (decide (c.body.map (u6j p q)=d.body.map (u6j p q)))):=fun s g=>by
  rw[←u7n]
  exact g0j (P:=fun a b=>decide (u6j p q a=u6j p q b)) (by have:=hc.body;omega) (by simpa [idsL,AV.ids] using Cov.one (by simp[AObj.ids,idsL,u6t,AV.ids])) fun a ha b hb=>g0k (hc.atoms a ha) (hd.atoms b hb)
 rw[g1p]
 simp only[z3x,u6t] at p3 p4 p5 p6
 have hf:∀ s g D L k,D.length=k→s=k + 0→Has [(s, .blk g [AV.agg [.str p, .str q]] false false 0)] (D++ .blk g [AV.agg [.str p, .str q]] false false 0::L):=fun s g D L k hk hs=>by
  refine Has.cons ?_ Has.nil
  subst hs hk
  show (D++_::L)[D.length + 0]? =_
  rw[z6k rfl]
  rfl
 refine Pure.of rfl g6a rfl rfl rfl (az:=[u6t p q,z0f c,z0f d]) rfl (by simp[idsL,AV.ids,u6t,z1z]) fun D B clk T hB hT=> ?_
 cases h1:decide (c.vars=d.vars) with
 | false=>
   rw[h1] at p1 hT
   simp only[go_sem,g2p,hB,u6t,z0f,z0l,z1i,z0a p1]
   refine⟨by simp[z1f,apart,z0i,z1d,z1h,AOp.isCall,hB,AV.ids,idsL,z0c z2q,z0c z2b], ?_⟩
   rw[z0e]
   exact hT _
 | true=>
   cases h2:decide (c.guard=d.guard) with
   | false=>
     rw[h1] at p1 hT
     rw[h2] at p2 hT
     simp only[go_sem,g2p,hB,u6t,z0f,z0l,z1i,z0a p1,z0a p2]
     refine⟨by simp[z1f,apart,z0i,z1d,z1h,AOp.isCall,hB,AV.ids,idsL,z0c z2q,z0c z2b], ?_⟩
     rw[z0e]
     exact hT _
   | true=>
     cases h3:decide (u6j p q c.head=u6j p q d.head) with
     | false=>
       rw[h1] at p1 hT
       rw[h2] at p2 hT
       rw[h3] at p5 hT
       simp only[go_sem,g2p,hB,u6t,z0f,z0l,z1i,z0a p1,z0a p2,z0a p3,z0a p4,z0a p5]
       refine⟨by simp[z1f,apart,z0i,z1d,z1h,AOp.isCall,hB,AV.ids,idsL,z0c z2q,z0c z2b], ?_⟩
       rw[z0e]
       exact hT _
     | true=>
       rw[h1] at p1 hT
       rw[h2] at p2 hT
       rw[h3] at p5 hT
       simp only[go_sem,g2p,hB,u6t,z0f,z0l,z1i,z0a p1,z0a p2,z0a p3,z0a p4,z0a p5]
       refine z7r (p6 _ _) (hf _ _ _ _ _ hB rfl) ?_
       simp only[go_sem,hB]
       refine⟨by simp[z1f,apart,z0i,z1d,z1h,AOp.isCall,hB,AV.ids,idsL,z0c z2q,z0c z2b], ?_⟩
       rw[z0e]
       exact hT _
def g1a (s:Sys) (i:Nat):List Nat:=((s.clauses[i]?).map (·.head.pred)).getD []
def clI (s:Sys) (a:List Nat) (n:Nat):List Nat:=(List.range n).filter fun i=>decide (g1a s i=a)
theorem u8m {s:Sys} {a:List Nat} {n:Nat}:clI s a (n + 1)=clI s a n++if g1a s n=a then [n] else []:=by
 unfold clI
 rw[List.range_succ,List.filter_append]
 by_cases h:g1a s n=a <;> simp[h]
theorem u6z {s:Sys} {a:List Nat} {n:Nat}:(clI s a n).length≤n:=Nat.le_trans (List.length_filter_le _ _) (by simp)
theorem u7h {s:Sys} {a:List Nat} {n i:Nat} (h:i∈clI s a n):i < n:=by
 have:=(List.mem_filter.1 h).1
 simpa using this
theorem u7o {s:Sys} {i:Nat} (h:i < s.clauses.length):g1a s i=s.clauses[i].head.pred:=by simp[g1a,h]
def cls (s:Sys) (a:List Nat):List Nat:=clI s a s.clauses.length
def noC:Clause:=⟨[],[],[],[],[]⟩
def u6r (s:Sys) (i:Nat):Clause:=(s.clauses[i]?).getD noC
def u6n (s:Sys) (p q:Func):Bool:= !decide (p.name=q.name) && decide (p.args=q.args) && decide ((cls s p.name).map (fun i=>u6m p.name q.name (u6r s i))=(cls s q.name).map fun i=>u6m p.name q.name (u6r s i))
theorem u7p {D L:List AObj} {B k gen i:Nat} {xs:List Nat} {t:Tip} {o:AObj} (hB:D.length=B) (ho:L[k]? =some o) (ht:z8k B k o t 1) (hl:xs.length≤2 ^ 20):
  z1g (D++L) (B + k) gen 1 8 false (.sl (xs.map nat) t) (.sl [.int .i64 (i:Int)] .full)=some (.sl ((xs++[i]).map nat) (.at (B + k) gen),D++L.set k (.tip gen 1)):=by
 rw[show [AV.int .i64 (i:Int)]=[i].map nat from rfl,z0j hB ho ht z3y z3y (by simp only[List.length_map,List.length_singleton];omega),List.map_append]
theorem g1b {s:Sys} {a:List Nat} (hl:s.clauses.length≤2 ^ 18):Pure Gam 133 [z0x s, .str a] (.sl ((cls s a).map nat) .no):=by
 refine Pure.of rfl g6k rfl rfl rfl (az:=[z0x s, .str a]) rfl (by simp[idsL,AV.ids,z2c]) fun D B clk T hB hT=> ?_
 simp only[go_sem,g4y,hB,z0x,List.length_map]
 refine z6z s.clauses.length (by omega) (fun i q=>∃ (t:Tip) (o0 o1 o2 o3:AObj),q.ts 1= .str a∧q.ts 5= .sl ((clI s a i).map nat) t∧q.ts 9= .sl (s.clauses.map z0f) .no∧q.ts 10= .int .i64 (s.clauses.length:Int)∧q.ts 11= .int .i64 (i:Int)∧q.h=D++[o0,o1,o2,o3]∧z8k B 3 o3 t 1) ⟨.nil,_,_,_,_,rfl,rfl,rfl,rfl,rfl,rfl, .inl rfl⟩ ?_ ?_
 ·rintro i hlt f1 f2 ts h clk P ⟨t,o0,o1,o2,o3,q1,q5,q9,q10,q11,rfl,ht⟩ hnx he hr
  dsimp only at q1 q5 q9 q10 q11
  have hix:=fun h=>z8l (l:=s.clauses) (i:=i) (h:=h) (t:= .no) (k:= .i64) hlt
  have hc:=u8m (s:=s) (a:=a) (n:=i)
  have hg:=fun {L gen}=>u7p (D:=D) (L:=L) (B:=B) (k:=3) (gen:=gen) (i:=i) (xs:=clI s a i) (t:=t) (o:=o3) hB
  have hll:(clI s a i).length≤2 ^ 20:=Nat.le_trans u6z (by omega)
  rw[u7o hlt] at hc
  generalize s.clauses[i]=c at *
  cases hd:decide (c.head.pred=a) with
  | true=>
    rw[if_pos (of_decide_eq_true hd)] at hc
    simp only[go_sem,g0h,q1,q5,q9,q10,q11,hB,f1,hix,hd]
    rw[hg rfl ht hll,←hc]
    simp only[go_sem,q1,q5,q9,q10,q11,f2]
    exact hnx _ ⟨_,_,_,_,_,q1,rfl,q9,q10,rfl,rfl, .inr (.inr ⟨_,rfl,rfl⟩)⟩
  | false=>
    rw[if_neg (of_decide_eq_false hd),List.append_nil] at hc
    simp only[go_sem,g0h,q1,q5,q9,q10,q11,hB,f1,f2,hix,hd]
    exact hnx _ ⟨t,_,_,_,_,q1,by rw[hc];exact q5,q9,q10,rfl,rfl,ht⟩
 ·rintro f1 ts h clk P ⟨t,o0,o1,o2,o3,q1,q5,q9,q10,q11,rfl,ht⟩ he hr
  dsimp only at q1 q5 q9 q10 q11
  simp only[go_sem,g0h,q1,q5,q9,q10,q11,f1]
  refine he _ _ ?_
  simp only[go_sem,q5]
  rw[z2x rfl (by simp[AV.cv,AV.ids,q5e])]
  exact hT _
theorem u7a {s:Sys} {i:Nat} (h:i < s.clauses.length):u6r s i=s.clauses[i]:=by simp[u6r,h]
theorem Cov.pair {s t:Nat} {o q:AObj} (ho:o.ids=[]) (hq:q.ids=[]):Cov [(s,o),(t,q)] [s,t]:=by
 refine⟨by simp,by simp[ho,hq],fun h hS p hp=> ?_⟩
 simp at hp
 rcases hp with rfl | rfl
 ·exact z6x (.inr (by simp))
 ·exact z6x (.inr (by simp))
theorem g1r {r s gr gs:Nat} {S:Sys} {p q:List Nat} {i k:Nat} (hi:i < S.clauses.length) (hk:k < S.clauses.length) (hc:∀ c∈S.clauses,CmpC c):Reads [(r, .blk gr [u6t p q] false false 0),(s, .blk gs [z0x S] false false 0)] 135 [nat i,nat k, .ptr r gr 0 0, .ptr s gs 0 0] (.bool (decide (u6m p q (u6r S i)=u6m p q (u6r S k)))):=by
 rw[u7a hi,u7a hk]
 have p1:=g2u (p:=p) (q:=q) (hc _ (List.getElem_mem hi)) (hc _ (List.getElem_mem hk))
 have hx:=fun h=>z8l (l:=S.clauses) (i:=i) (h:=h) (t:= .no) (k:= .i64) hi
 have hy:=fun h=>z8l (l:=S.clauses) (i:=k) (h:=h) (t:= .no) (k:= .i64) hk
 generalize decide (u6m p q S.clauses[i]=u6m p q S.clauses[k])=b at *
 generalize S.clauses[i]=c at *
 generalize S.clauses[k]=d at *
 refine Reads.of rfl g5z rfl rfl rfl (az:=[nat i,nat k, .ptr r gr 0 0, .ptr s gs 0 0]) rfl (by simpa [idsL,AV.ids,nat] using Cov.pair (by simp[AObj.ids,idsL,u6t,AV.ids]) (by simp[AObj.ids,idsL,z2c])) fun D B clk T hB hS hlt hT=> ?_
 have hr:r < B:=hlt (r,_) List.mem_cons_self
 have hs:s < B:=hlt (s,_) (List.mem_cons_of_mem _ List.mem_cons_self)
 have b1:∀ L,z2a (D++L) r gr=some ([u6t p q],false,false,0):=fun L=>by rw[z4e hB hr,z5z (hS (r,_) List.mem_cons_self)]
 have b2:∀ L,z2a (D++L) s gs=some ([z0x S],false,false,0):=fun L=>by rw[z4e hB hs,z5z (hS (s,_) (List.mem_cons_of_mem _ List.mem_cons_self))]
 simp only[u6t,z0f,z0l,z0x] at p1 b1 b2
 simp only[go_sem,g4u,hB,nat,b1,b2,hx,hy,z0a p1]
 rw[z0e]
 exact hT _ hS.app
theorem g2v {s:Sys} {p q:Func} (hl:s.clauses.length≤2 ^ 18) (hc:∀ c∈s.clauses,CmpC c) (hp:p.args.length≤20000) (hq:q.args.length≤20000):Pure Gam 78 [z0x s,z0q p,z0q q] (.bool (u6n s p q)):=by
 have p1:=g1n (xs:=p.args) (ys:=q.args) (u:= .no) (v:= .no) (by omega) (by omega)
 have p2:=g1b (s:=s) (a:=p.name) hl
 have p3:=g1b (s:=s) (a:=q.name) hl
 have p4:∀ a b g g',Reads [(a, .blk g [u6t p.name q.name] false false 0),(b, .blk g' [z0x s] false false 0)] 134 [.sl ((cls s p.name).map nat) .no, .sl ((cls s q.name).map nat) .no, .fn 135 [.ptr a g 0 0, .ptr b g' 0 0]] (.bool (decide ((cls s p.name).map (fun i=>u6m p.name q.name (u6r s i))=(cls s q.name).map fun i=>u6m p.name q.name (u6r s i)))):=fun a b g g'=>by
  rw[←u7n]
  exact g2t (enc:=nat) (enc':=nat) (P:=fun i k=>decide (u6m p.name q.name (u6r s i)=u6m p.name q.name (u6r s k))) rfl g5y (fun _=>rfl) (fun _=>rfl) (fun _ _=>rfl) (fun _ _=>rfl) (fun _=>rfl) (fun _=>rfl) (Nat.le_trans u6z (by omega)) (by simpa [idsL,AV.ids] using Cov.pair (by simp[AObj.ids,idsL,u6t,AV.ids]) (by simp[AObj.ids,idsL,z2c])) fun i hi k hk=>g1r (u7h hi) (u7h hk) hc
 simp only[z0x,u6t] at p2 p3 p4
 refine Pure.of rfl g6j rfl rfl rfl (az:=[z0x s,z0q p,z0q q]) rfl (by simp[idsL,z2c,z2j]) fun D B clk T hB hT=> ?_
 unfold u6n at hT
 cases h1:decide (p.name=q.name) with
 | true=>
   rw[h1] at hT
   simp only[go_sem,g3f,hB,z0x,z0q,nat,h1]
   rw[z0e]
   exact hT _
 | false=>
   cases h2:decide (p.args=q.args) with
   | false=>
     rw[h1,h2] at hT
     rw[h2] at p1
     simp only[go_sem,g3f,hB,z0x,z0q,nat,h1,z0a p1,Bool.not_false]
     rw[z0e]
     exact hT _
   | true=>
     rw[h1,h2] at hT
     rw[h2] at p1
     simp only[go_sem,g3f,hB,z0x,z0q,nat,h1,z0a p1,Bool.not_true,z1i,z0a p2,z0a p3]
     refine⟨by simp[z1f,apart,z0i,z1d,z1h,AOp.isCall,hB,AV.ids,idsL,z0c z2j,z0c z1z,q5e], ?_⟩
     rw[z0w (p4 _ _ _ _) (Has.cons (by show (D++_)[B + 3]? =_;rw[z6k hB];rfl) (Has.cons (by show (D++_)[B + 0]? =_;rw[z6k hB];rfl) Has.nil))]
     simp only[go_sem,hB]
     rw[z0e]
     exact hT _
def g1s (a b:Int):Int:=if a < b then -1 else if b < a then 1 else 0
def g1z (a b:List Nat):Int:=if z4u a b=true then -1 else if a=b then 0 else 1
theorem u6o {a b:Int}:g1s a b=0↔a=b:=by
 unfold g1s
 split
 ·constructor
  ·intro h;cases h
  ·omega
 ·split
  ·constructor
   ·intro h;cases h
   ·omega
  ·simp;omega
theorem u7z {a b:List Nat}:g1z a b=0↔a=b:=by
 unfold g1z
 split
 ·rename_i h
  refine⟨fun h=>(by cases h),fun e=> ?_⟩
  rw[e,q2k] at h
  cases h
 ·split <;> simp_all
theorem g1c {h:List AObj} {t:ETy} {a b:List Nat}:z7d h .gtr t (.str a) (.str b)=some (.bool (!z4u a b && !decide (a=b)),h):=by simp[z7d,z4q,q6m]
theorem u7q {a b:Int}:Pure Gam 196 [.int .i64 a, .int .i64 b] (.int .i64 (g1s a b)):=by
 refine Pure.of rfl y4o rfl rfl rfl rfl rfl fun D B clk T hB hT=> ?_
 unfold g1s at hT
 cases h1:decide (a < b) with
 | true=>
   rw[if_pos (of_decide_eq_true h1)] at hT
   simp only[go_sem,w4z,h1]
   rw[z0h rfl rfl]
   exact hT _
 | false=>
   rw[if_neg (of_decide_eq_false h1)] at hT
   cases h2:decide (b < a) with
   | true=>
     rw[if_pos (of_decide_eq_true h2)] at hT
     simp only[go_sem,w4z,h1,h2]
     rw[z0h rfl rfl]
     exact hT _
   | false=>
     rw[if_neg (of_decide_eq_false h2)] at hT
     simp only[go_sem,w4z,h1,h2]
     rw[z0h rfl rfl]
     exact hT _
theorem g0l {a b:List Nat}:Pure Gam 197 [.str a, .str b] (.int .i64 (g1z a b)):=by
 refine Pure.of rfl y4p rfl rfl rfl rfl rfl fun D B clk T hB hT=> ?_
 unfold g1z at hT
 cases h1:z4u a b with
 | true=>
   rw[if_pos h1] at hT
   simp only[go_sem,w5a,h1]
   rw[z0h rfl rfl]
   exact hT _
 | false=>
   rw[if_neg (by simp[h1])] at hT
   cases h2:decide (a=b) with
   | true=>
     rw[if_pos (of_decide_eq_true h2)] at hT
     simp only[go_sem,w5a,h1,h2,g1c,Bool.not_false,Bool.not_true,Bool.true_and]
     rw[z0h rfl rfl]
     exact hT _
   | false=>
     rw[if_neg (of_decide_eq_false h2)] at hT
     simp only[go_sem,w5a,h1,h2,g1c,Bool.not_false,Bool.true_and]
     rw[z0h rfl rfl]
     exact hT _
theorem g4e {t u:Term} {v w:Tip} {h:List AObj} {clk:Nat} {Q:AV→List AObj→Nat→Prop} (hl:t.length≤20000) (hQ:∀ z:Int,(z=0↔t=u)→Q (.int .i64 z) h clk):WC Gam 129 [.sl (t.map eNode) v, .sl (u.map eNode) w] h clk Q:=by
 refine q5x rfl y4n rfl rfl rfl (az:=[.sl (t.map eNode) .no, .sl (u.map eNode) .no]) rfl (by simp[idsL,z7s]) fun D B T hB hT=> ?_
 have ea0:∀ (h:List AObj) (g:Nat),q5j h 5 1 (.ptr (B + 2) g 0 0) (.int .i64 0)=some (.ptr (B + 2) g 0 0,h):=fun _ _=>rfl
 have ea1:∀ (h:List AObj) (g:Nat),q5j h 5 1 (.ptr (B + 2) g 0 0) (.int .i64 1)=some (.ptr (B + 2) g 0 1,h):=fun _ _=>rfl
 have ea2:∀ (h:List AObj) (g:Nat),q5j h 5 1 (.ptr (B + 2) g 0 0) (.int .i64 2)=some (.ptr (B + 2) g 0 2,h):=fun _ _=>rfl
 have ea3:∀ (h:List AObj) (g:Nat),q5j h 5 1 (.ptr (B + 2) g 0 0) (.int .i64 3)=some (.ptr (B + 2) g 0 3,h):=fun _ _=>rfl
 have ea4:∀ (h:List AObj) (g:Nat),q5j h 5 1 (.ptr (B + 2) g 0 0) (.int .i64 4)=some (.ptr (B + 2) g 0 4,h):=fun _ _=>rfl
 have w0:IntKind.i64.wrap (0 + 1)=1:=by decide
 have w1:IntKind.i64.wrap (1 + 1)=2:=by decide
 have w2:IntKind.i64.wrap (2 + 1)=3:=by decide
 have w3:IntKind.i64.wrap (3 + 1)=4:=by decide
 have w4:IntKind.i64.wrap (4 + 1)=5:=by decide
 simp only[go_sem,w4y,hB]
 refine z0y (fun m q=>∃ (i:Nat) (o0 o1 o2:AObj),i≤t.length∧m=t.length - i∧i≤u.length∧t.take i=u.take i∧q.ts 0= .sl (t.map eNode) .no∧q.ts 1= .sl (u.map eNode) .no∧q.ts 5= .int .i64 (i:Int)∧q.h=D++[o0,o1,o2]) t.length ⟨0,_,_,_,by omega,rfl,by omega,by simp,rfl,rfl,rfl,rfl⟩ ?_
 rintro m ⟨ts,h',clk⟩ P ⟨i,o0,o1,o2,hi,rfl,hiu,htk,h0,h1,h5,rfl⟩ hnx he hr
 dsimp only at h0 h1 h5
 have f2:IntKind.i64.wrap ((i:Int) + 1)=((i + 1:Nat):Int):=z0d (by omega) (by omega)
 have fin:∀ z:Int,(z=0↔t=u)→∀ h',RV [] (some [AV.int .i64 z]) (fun v h'=>T v h') h':=fun z hz h'=>by
  rw[z0h rfl rfl]
  exact hT _ _ (hQ z hz)
 by_cases hlt:i < t.length
 ·have f1:decide ((i:Int) < (t.length:Int))=true:=by rw[decide_eq_true_iff];omega
  by_cases hlu:i < u.length
  ·have f3:decide ((i:Int) < (u.length:Int))=true:=by rw[decide_eq_true_iff];omega
   have hti:t[i]? =some t[i]:=List.getElem?_eq_getElem hlt
   have hui:u[i]? =some u[i]:=List.getElem?_eq_getElem hlu
   have hne:t[i]≠u[i]→∀ z:Int,z≠0→(z=0↔t=u):=fun hn z hz=>⟨fun h=>absurd h hz,fun h=>by subst h;exact absurd rfl hn⟩
   have hst:t[i]=u[i]→t.take (i + 1)=u.take (i + 1):=u8r hlt hlu htk
   generalize t[i]=n at *
   generalize u[i]=o at *
   have zz0:=u6o (a:=(n.op:Int)) (b:=(o.op:Int))
   have zz1:=u6o (a:=(n.sort:Int)) (b:=(o.sort:Int))
   have zz2:=u7z (a:=n.name) (b:=o.name)
   have zz3:=u7z (a:=n.num) (b:=o.num)
   have zz4:=u6o (a:=(n.kids:Int)) (b:=(o.kids:Int))
   simp only[go_sem,j2o,h0,h1,h5,hB,List.length_map,f1,f3,z1i,z3a hti,z3a hui,z0a u7q,z0a g0l]
   refine⟨by simp[z1f,apart,z0i,z1d,z1h,AOp.isCall,hB,z7s], ?_⟩
   refine⟨by simp[z1f,apart,z0i,z1d,z1h,AOp.isCall,hB,z7s], ?_⟩
   generalize g1s (n.op:Int) o.op=y0 at *
   generalize g1s (n.sort:Int) o.sort=y1 at *
   generalize g1z n.name o.name=y2 at *
   generalize g1z n.num o.num=y3 at *
   generalize g1s (n.kids:Int) o.kids=y4 at *
   refine z3f ?_
   cases d0:decide (y0=0) with
   | false=>
     simp only[go_sem,q4t,hB,h0,h1,h5,Int.reduceLT,decide_true,ea0,w0,d0,Bool.not_false]
     refine hr _ ?_
     simp only[go_sem,]
     exact fin _ (hne (fun e=>of_decide_eq_false d0 (zz0.2 (by rw[e]))) _ (of_decide_eq_false d0)) _
   | true=>
   simp only[go_sem,q4t,hB,h0,h1,h5,Int.reduceLT,decide_true,ea0,w0,d0,Bool.not_true]
   refine z3f ?_
   cases d1:decide (y1=0) with
   | false=>
     simp only[go_sem,q4t,hB,h0,h1,h5,Int.reduceLT,decide_true,ea1,w1,d1,Bool.not_false]
     refine hr _ ?_
     simp only[go_sem,]
     exact fin _ (hne (fun e=>of_decide_eq_false d1 (zz1.2 (by rw[e]))) _ (of_decide_eq_false d1)) _
   | true=>
   simp only[go_sem,q4t,hB,h0,h1,h5,Int.reduceLT,decide_true,ea1,w1,d1,Bool.not_true]
   refine z3f ?_
   cases d2:decide (y2=0) with
   | false=>
     simp only[go_sem,q4t,hB,h0,h1,h5,Int.reduceLT,decide_true,ea2,w2,d2,Bool.not_false]
     refine hr _ ?_
     simp only[go_sem,]
     exact fin _ (hne (fun e=>of_decide_eq_false d2 (zz2.2 (by rw[e]))) _ (of_decide_eq_false d2)) _
   | true=>
   simp only[go_sem,q4t,hB,h0,h1,h5,Int.reduceLT,decide_true,ea2,w2,d2,Bool.not_true]
   refine z3f ?_
   cases d3:decide (y3=0) with
   | false=>
     simp only[go_sem,q4t,hB,h0,h1,h5,Int.reduceLT,decide_true,ea3,w3,d3,Bool.not_false]
     refine hr _ ?_
     simp only[go_sem,]
     exact fin _ (hne (fun e=>of_decide_eq_false d3 (zz3.2 (by rw[e]))) _ (of_decide_eq_false d3)) _
   | true=>
   simp only[go_sem,q4t,hB,h0,h1,h5,Int.reduceLT,decide_true,ea3,w3,d3,Bool.not_true]
   refine z3f ?_
   cases d4:decide (y4=0) with
   | false=>
     simp only[go_sem,q4t,hB,h0,h1,h5,Int.reduceLT,decide_true,ea4,w4,d4,Bool.not_false]
     refine hr _ ?_
     simp only[go_sem,]
     exact fin _ (hne (fun e=>of_decide_eq_false d4 (zz4.2 (by rw[e]))) _ (of_decide_eq_false d4)) _
   | true=>
   simp only[go_sem,q4t,hB,h0,h1,h5,Int.reduceLT,decide_true,ea4,w4,d4,Bool.not_true]
   refine z3f ?_
   simp only[go_sem,q4t,hB,h0,h1,h5,Int.reduceLT,decide_false,f2]
   have e0:n.op=o.op:=by have:=zz0.1 (of_decide_eq_true d0);omega
   have e1:n.sort=o.sort:=by have:=zz1.1 (of_decide_eq_true d1);omega
   have e4:n.kids=o.kids:=by have:=zz4.1 (of_decide_eq_true d4);omega
   have e:n=o:=by
    cases n;cases o
    simp only[Node.mk.injEq]
    exact⟨e0,e1,zz2.1 (of_decide_eq_true d2),zz3.1 (of_decide_eq_true d3),e4⟩
   exact hnx (t.length - (i + 1)) _ (by omega) ⟨i + 1,_,_,_,hlt,rfl,hlu,hst e,h0,h1,rfl,rfl⟩
  ·have f3:decide ((i:Int) < (u.length:Int))=false:=by rw[decide_eq_false_iff_not];omega
   simp only[go_sem,j2o,h0,h1,h5,hB,List.length_map,f1,f3]
   refine he _ _ ?_
   simp only[go_sem,h0,h1,List.length_map,z0a u7q]
   exact fin _ (by rw[u6o];exact⟨fun h=>by omega,fun h=>by rw[h]⟩) _
 ·have f1:decide ((i:Int) < (t.length:Int))=false:=by rw[decide_eq_false_iff_not];omega
  simp only[go_sem,j2o,h0,h1,h5,hB,List.length_map,f1]
  refine he _ _ ?_
  simp only[go_sem,h0,h1,List.length_map,z0a u7q]
  refine fin _ ?_ _
  rw[u6o]
  obtain rfl:i=t.length:=by omega
  refine⟨fun h=> ?_,fun h=>by rw[h]⟩
  have:t.length=u.length:=by omega
  rwa [List.take_length,this,List.take_length] at htk
theorem u9g {t u:Term} {v w:Tip} (hl:t.length≤20000):Pure Gam 68 [.sl (t.map eNode) v, .sl (u.map eNode) w] (.bool (decide (t=u))):=by
 refine Pure.of rfl u4q rfl rfl rfl (az:=[.sl (t.map eNode) .no, .sl (u.map eNode) .no]) rfl (by simp[idsL,z7s]) fun D B clk T hB hT=> ?_
 simp only[go_sem,u0f,hB]
 refine z6f (g4e hl fun z hz=> ?_)
 have e:decide (z=0)=decide (t=u):=by simp[hz]
 simp only[go_sem,e]
 rw[z0e]
 exact hT _
theorem g2w {xs ys:List Nat} {u v:Tip} (hl:xs.length≤20000) (hl2:ys.length≤20000):Pure Gam 148 [.sl (xs.map nat) u, .sl (ys.map nat) v] (.bool (decide (xs=ys))):=by
 refine Pure.of rfl g6c rfl rfl rfl (az:=[.sl (xs.map nat) .no, .sl (ys.map nat) .no]) rfl (by simp[idsL,AV.ids,q5e]) fun D B clk T hB hT=> ?_
 cases hlen:decide (xs.length=ys.length) with
 | true=>
   have hlen':xs.length=ys.length:=of_decide_eq_true hlen
   simp only[go_sem,g3x,hB,List.length_map,u6g,hlen,Bool.not_true]
   refine z6z xs.length (by omega) (fun i q=>xs.take i=ys.take i∧q.ts 0= .sl (xs.map nat) .no∧q.ts 1= .sl (ys.map nat) .no∧q.ts 5= .int .i64 (i:Int)) ⟨by simp,rfl,rfl,rfl⟩ ?_ ?_
   ·rintro i hlt f1 f2 ts h clk P ⟨he0,q0,q1,q5⟩ hnx he hr
    dsimp only at q0 q1 q5
    have hlt2:i < ys.length:=by omega
    have hx:=fun h=>q9k (l:=xs) (i:=i) (h:=h) (t:= .no) (k:= .i64) hlt
    have hy:=fun h=>q9k (l:=ys) (i:=i) (h:=h) (t:= .no) (k:= .i64) hlt2
    simp only[nat] at hx hy
    cases hc:decide (xs[i]=ys[i]) with
    | true=>
      simp only[go_sem,g0a,q0,q1,q5,f1,f2,List.length_map,hx,hy,u6g,hc,Bool.not_true]
      exact hnx _ ⟨u8r hlt hlt2 he0 (of_decide_eq_true hc),q0,q1,rfl⟩
    | false=>
      simp only[go_sem,g0a,q0,q1,q5,f1,f2,List.length_map,hx,hy,u6g,hc,Bool.not_false]
      refine hr _ ?_
      rw[decide_eq_false fun e=>of_decide_eq_false hc (by subst e;rfl)] at hT
      simp only[go_sem,]
      rw[z0e]
      exact hT _
   ·rintro f1 ts h clk P ⟨he0,q0,q1,q5⟩ he hr
    dsimp only at q0 q1 q5
    simp only[go_sem,g0a,q0,q1,q5,List.length_map,f1]
    refine he _ _ ?_
    rw[List.take_length,hlen',List.take_length] at he0
    rw[decide_eq_true he0] at hT
    simp only[go_sem,]
    rw[z0e]
    exact hT _
 | false=>
   simp only[go_sem,g3x,hB,List.length_map,u6g,hlen,Bool.not_false]
   rw[decide_eq_false fun e=>of_decide_eq_false hlen (by rw[e])] at hT
   rw[z0e]
   exact hT _
theorem u9h {p q:List Nat} {a:App}:Pure Gam 151 [z3x a, .str p, .str q] (z3x (u6j p q a)):=by
 refine Pure.of rfl g3y rfl rfl rfl (az:=[z3x a, .str p, .str q]) rfl (by simp[idsL,AV.ids,z4w]) fun D B clk T hB hT=> ?_
 cases h:decide (a.pred=p) with
 | true=>
   simp only[go_sem,g1m,hB,z3x,h,z0n,z0m,z0g]
   rw[z2x rfl (by simp[AV.cv,cvL,AV.ids,idsL,z0c z2q])]
   simp only[u6j,if_pos (of_decide_eq_true h),z3x] at hT
   exact hT _
 | false=>
   simp only[go_sem,g1m,hB,z3x,h,z0n,z0m,z0g]
   rw[z2x rfl (by simp[AV.cv,cvL,AV.ids,idsL,z0c z2q])]
   simp only[u6j,if_neg (of_decide_eq_false h),z3x] at hT
   exact hT _
theorem u9i {c:Clause} {p q:List Nat} (hb:c.body.length≤20000):Pure Gam 97 [z0f c, .str p, .str q] (z0f (u6m p q c)):=by
 have p1:=u9h (p:=p) (q:=q) (a:=c.head)
 simp only[z3x] at p1
 refine Pure.of rfl g6e rfl rfl rfl (az:=[z0f c, .str p, .str q]) rfl (by simp[idsL,AV.ids,z1z]) fun D B clk T hB hT=> ?_
 simp only[go_sem,g4w,hB,z0f,z0l,z1i,z0a p1]
 refine⟨by simp[z1f,apart,z0i,z1d,z1h,AOp.isCall,hB,AV.ids,idsL,z0c z2b,z0c z1y,z0c z2q], ?_⟩
 refine z6z c.body.length (by omega) (fun i q'=>∃ (g0 g1 g2:Nat) (t:Tip) (o3 o4:AObj),q'.ts 1= .str p∧q'.ts 2= .str q∧q'.ts 3= .ptr (B + 0) g0 0 0∧q'.ts 6= .ptr (B + 1) g1 0 0∧q'.ts 7= .ptr (B + 2) g2 0 0∧q'.ts 8= .int .i64 (i:Int)∧q'.h=D++[.blk g0 [.agg [.sl (c.vars.map z1b) .no, .sl (c.body.map z3x) .no, .sl (c.guard.map eNode) .no, .str c.head.pred, .sl (c.head.args.map z0l) .no]] false false 0, .blk g1 [.agg [.sl [] .nil, .sl [] .nil, .sl [] .nil, .str [], .sl [] .nil]] false false 0, .blk g2 [.agg [.sl (c.vars.map z1b) .no, .sl (((c.body.take i).map (u6j p q)).map z3x) t, .sl (c.guard.map eNode) .no, .str (u6j p q c.head).pred, .sl ((u6j p q c.head).args.map z0l) .no]] false false 0,o3,o4]∧z8k B 4 o4 t 2) ⟨_,_,_, .nil,_,_,rfl,rfl,rfl,rfl,rfl,rfl,rfl, .inl rfl⟩ ?_ ?_
 ·rintro i hlt f1 f2 ts h clk P ⟨g0,g1,g2,t,o3,o4,q1,q2,q3,q6,q7,q8,rfl,ht⟩ hnx he hr
  dsimp only at q1 q2 q3 q6 q7 q8
  have hix:=fun h=>j1a (l:=c.body) (i:=i) (h:=h) (t:= .no) (k:= .i64) hlt
  have p2:=u9h (p:=p) (q:=q) (a:=c.body[i])
  have e8:((c.body.take i).map (u6j p q)).map z3x++[u6j p q c.body[i]].map z3x=((c.body.take (i + 1)).map (u6j p q)).map z3x:=by rw[List.take_succ_eq_append_getElem hlt,List.map_append,List.map_append];rfl
  simp only[z3x] at p2
  generalize u6j p q c.body[i]=x at *
  generalize c.body[i]=y at *
  simp only[go_sem,g1l,q1,q2,q3,q6,q7,q8,hB,f1,List.length_map,hix,z1i,z0a p2]
  rw[show [AV.agg [.str x.pred, .sl (x.args.map z0l) .no]]=[x].map z3x from rfl,z0j hB rfl ht z7h z7h (by simp only[List.length_map,List.length_singleton,List.length_take];omega),e8]
  simp only[go_sem,q1,q2,q3,q6,q7,q8,hB,f2]
  refine⟨by simp[z1f,apart,z0i,z1d,z1h,AOp.isCall,hB,AV.ids,idsL,z0c z4w,z0c z2q], ?_⟩
  exact hnx _ ⟨_,_,_,_,_,_,q1,q2,q3,q6,q7,rfl,rfl, .inr (.inr ⟨_,rfl,rfl⟩)⟩
 ·rintro f1 ts h clk P ⟨g0,g1,g2,t,o3,o4,q1,q2,q3,q6,q7,q8,rfl,ht⟩ he hr
  dsimp only at q1 q2 q3 q6 q7 q8
  rw[List.take_length]
  simp only[go_sem,g1l,q1,q2,q3,q6,q7,q8,hB,f1,List.length_map]
  refine he _ _ ?_
  simp only[go_sem,q6,q7,hB,z0n,z0m,z0g]
  rw[z2x rfl (by simp[-List.map_map,AV.cv,cvL,AV.ids,idsL,z0c z2q,z0c z2b,z0c z1y,z0c z4w])]
  exact hT _
theorem u8n {s:Sys} {a:List Nat} (hl:s.clauses.length≤2 ^ 18):Pure Gam 98 [z0x s, .str a] (.sl ((cls s a).map nat) .no):=by
 refine Pure.of rfl g6d rfl rfl rfl (az:=[z0x s, .str a]) rfl (by simp[idsL,AV.ids,z2c]) fun D B clk T hB hT=> ?_
 simp only[go_sem,g4v,hB,z0x,List.length_map]
 refine z6z s.clauses.length (by omega) (fun i q=>∃ (g0:Nat) (t:Tip) (o1 o2:AObj),q.ts 1= .str a∧q.ts 2= .ptr (B + 0) g0 0 0∧q.ts 5= .sl ((clI s a i).map nat) t∧q.ts 6= .int .i64 (i:Int)∧q.h=D++[.blk g0 [.agg [.sl (s.preds.map z0q) .no, .sl (s.clauses.map z0f) .no]] false false 0,o1,o2]∧z8k B 2 o2 t 1) ⟨_, .nil,_,_,rfl,rfl,rfl,rfl,rfl, .inl rfl⟩ ?_ ?_
 ·rintro i hlt f1 f2 ts h clk P ⟨g0,t,o1,o2,q1,q2,q5,q6,rfl,ht⟩ hnx he hr
  dsimp only at q1 q2 q5 q6
  have hix:=fun h=>z8l (l:=s.clauses) (i:=i) (h:=h) (t:= .no) (k:= .i64) hlt
  have hc:=u8m (s:=s) (a:=a) (n:=i)
  have hg:=fun {L gen}=>u7p (D:=D) (L:=L) (B:=B) (k:=2) (gen:=gen) (i:=i) (xs:=clI s a i) (t:=t) (o:=o2) hB
  have hll:(clI s a i).length≤2 ^ 20:=Nat.le_trans u6z (by omega)
  rw[u7o hlt] at hc
  generalize s.clauses[i]=c at *
  cases hd:decide (c.head.pred=a) with
  | true=>
    rw[if_pos (of_decide_eq_true hd)] at hc
    simp only[go_sem,g0b,q1,q2,q5,q6,hB,f1,List.length_map,hix,hd]
    rw[hg rfl ht hll,←hc]
    simp only[go_sem,q1,q2,q5,q6,f2]
    exact hnx _ ⟨_,_,_,_,q1,q2,rfl,rfl,rfl, .inr (.inr ⟨_,rfl,rfl⟩)⟩
  | false=>
    rw[if_neg (of_decide_eq_false hd),List.append_nil] at hc
    simp only[go_sem,g0b,q1,q2,q5,q6,hB,f1,f2,List.length_map,hix,hd]
    exact hnx _ ⟨_,t,_,_,q1,q2,by rw[hc];exact q5,rfl,rfl,ht⟩
 ·rintro f1 ts h clk P ⟨g0,t,o1,o2,q1,q2,q5,q6,rfl,ht⟩ he hr
  dsimp only at q1 q2 q5 q6
  simp only[go_sem,g0b,q1,q2,q5,q6,hB,f1,List.length_map]
  refine he _ _ ?_
  simp only[go_sem,q5]
  rw[z2x rfl (by simp[AV.cv,AV.ids,q5e])]
  exact hT _
theorem u9j {h:List AObj} {v w:Var}:z7d h .neq (.agg [.str, .int]) (.agg [.str v.name, .int .i64 (v.sort:Int)]) (.agg [.str w.name, .int .i64 (w.sort:Int)])=some (.bool (!decide (v=w)),h):=by
 obtain⟨a,b⟩:=v
 obtain⟨c,d⟩:=w
 by_cases h1:a=c <;> by_cases h2:b=d <;> simp[z7d,z4q,AV.eqv,eqL,AV.eq1,h1,h2,Int.ofNat_inj]
theorem u7r {α:Type} [DecidableEq α] {xs ys:List α} (h:decide (xs.length=ys.length)=false):decide (xs=ys)=false:=decide_eq_false fun e=>of_decide_eq_false h (by rw[e])
theorem u9k {a b:App} (ha:SmA a) (hb:SmA b):Pure Gam 227 [z3x a,z3x b] (.bool (decide (a=b))):=by
 have e0:decide (a=b)=(decide (a.pred=b.pred) && decide (a.args=b.args)):=by cases a;cases b;simp
 have hal:=ha.1
 have hbl:=hb.1
 rw[e0]
 refine Pure.of rfl g3z rfl rfl rfl (az:=[z3x a,z3x b]) rfl (by simp[idsL,z4w]) fun D B clk T hB hT=> ?_
 cases h:decide (a.pred=b.pred) with
 | false=>
   rw[h] at hT
   simp only[go_sem,g0e,hB,z3x,h,Bool.not_false]
   rw[z0e]
   exact hT _
 | true=>
   rw[h,Bool.true_and] at hT
   cases hlen:decide (a.args.length=b.args.length) with
   | false=>
     rw[u7r hlen] at hT
     simp only[go_sem,g0e,hB,z3x,h,Bool.not_true,List.length_map,u6g,hlen,Bool.not_false]
     rw[z0e]
     exact hT _
   | true=>
     have hlen':=of_decide_eq_true hlen
     simp only[go_sem,g0e,hB,z3x,h,Bool.not_true,List.length_map,u6g,hlen]
     refine z6z a.args.length (by omega) (fun i q=>∃ (g0 g1:Nat),a.args.take i=b.args.take i∧q.ts 2= .ptr (B + 0) g0 0 0∧q.ts 3= .ptr (B + 1) g1 0 0∧q.ts 5= .int .i64 (i:Int)∧q.h=D++[.blk g0 [z3x a] false false 0, .blk g1 [z3x b] false false 0]) ⟨_,_,by simp,rfl,rfl,rfl,rfl⟩ ?_ ?_
     ·rintro i hlt f1 f2 ts h clk P ⟨g0,g1,he0,q2,q3,q5,rfl⟩ hnx he hr
      dsimp only at q2 q3 q5
      have hlt2:i < b.args.length:=by omega
      have hx:∀ h,z1m h 1 (.sl (a.args.map z0l) .no) (.int .i64 (i:Int))=some (.iptr [.sl (a.args[i].map eNode) .no] 0,h):=fun h=>q4u hlt
      have hy:∀ h,z1m h 1 (.sl (b.args.map z0l) .no) (.int .i64 (i:Int))=some (.iptr [.sl (b.args[i].map eNode) .no] 0,h):=fun h=>q4u hlt2
      have p1:=u9g (t:=a.args[i]) (u:=b.args[i]) (v:= .no) (w:= .no) (ha.2 _ (List.getElem_mem hlt))
      cases hc:decide (a.args[i]=b.args[i]) with
      | true=>
        rw[hc] at p1
        simp only[go_sem,u8k,hB,z3x,q2,q3,q5,f1,f2,List.length_map,hx,hy,z0a p1,Bool.not_true]
        exact hnx _ ⟨g0,g1,u8r hlt hlt2 he0 (of_decide_eq_true hc),q2,q3,rfl,rfl⟩
      | false=>
        rw[hc] at p1
        simp only[go_sem,u8k,hB,z3x,q2,q3,q5,f1,f2,List.length_map,hx,hy,z0a p1,Bool.not_false]
        refine hr _ ?_
        rw[decide_eq_false fun e:a.args=b.args=>of_decide_eq_false hc (by simp only[e])] at hT
        simp only[go_sem,]
        rw[z0e]
        exact hT _
     ·rintro f1 ts h clk P ⟨g0,g1,he0,q2,q3,q5,rfl⟩ he hr
      dsimp only at q2 q3 q5
      simp only[go_sem,u8k,hB,z3x,q2,q3,q5,List.length_map,f1]
      refine he _ _ ?_
      rw[List.take_length,hlen',List.take_length] at he0
      rw[decide_eq_true he0] at hT
      simp only[go_sem,]
      rw[z0e]
      exact hT _
theorem u9l {c d:Clause}:decide (c=d)=(decide (c.vars=d.vars) && (decide (c.body=d.body) && (decide (c.guard=d.guard) && decide (c.head=d.head)))):=by
 cases c;cases d
 simp only[Clause.mk.injEq,Bool.decide_and]
theorem g2x {c d:Clause} (hc:CmpC c) (hd:CmpC d):Pure Gam 149 [z0f c,z0f d] (.bool (decide (c=d))):=by
 have p1:=u9g (t:=c.guard) (u:=d.guard) (v:= .no) (w:= .no) hc.guard
 have p2:=u9k hc.head hd.head
 have hcv:=hc.vars
 have hcb:=hc.body
 simp only[z3x] at p2
 rw[u9l]
 refine Pure.of rfl g6f rfl rfl rfl (az:=[z0f c,z0f d]) rfl (by simp[idsL,z1z]) fun D B clk T hB hT=> ?_
 cases hl1:decide (c.vars.length=d.vars.length) with
 | false=>
   rw[u7r hl1] at hT
   simp only[go_sem,g1w,hB,z0f,z0l,List.length_map,u6g,hl1,Bool.not_false]
   rw[z0e]
   exact hT _
 | true=>
 cases hl2:decide (c.body.length=d.body.length) with
 | false=>
   rw[u7r hl2,Bool.false_and,Bool.and_false] at hT
   simp only[go_sem,g1w,hB,z0f,z0l,List.length_map,u6g,hl1,hl2,Bool.not_false,Bool.not_true]
   rw[z0e]
   exact hT _
 | true=>
 cases hg:decide (c.guard=d.guard) with
 | false=>
   rw[hg,Bool.false_and,Bool.and_false,Bool.and_false] at hT
   rw[hg] at p1
   simp only[go_sem,g1w,hB,z0f,z0l,List.length_map,u6g,hl1,hl2,z0a p1,Bool.not_false,Bool.not_true]
   rw[z0e]
   exact hT _
 | true=>
 cases hh:decide (c.head=d.head) with
 | false=>
   rw[hh,Bool.and_false,Bool.and_false,Bool.and_false] at hT
   rw[hg] at p1
   rw[hh] at p2
   simp only[go_sem,g1w,hB,z0f,z0l,List.length_map,u6g,hl1,hl2,z0a p1,z0a p2,Bool.not_false,Bool.not_true]
   rw[z0e]
   exact hT _
 | true=>
 rw[hg,hh,Bool.and_true,Bool.and_true] at hT
 rw[hg] at p1
 rw[hh] at p2
 have hl1':=of_decide_eq_true hl1
 have hl2':=of_decide_eq_true hl2
 simp only[go_sem,g1w,hB,z0f,z0l,List.length_map,u6g,hl1,hl2,z0a p1,z0a p2,Bool.not_true]
 refine z6z c.vars.length (by omega) (fun i q=>∃ (g0 g1:Nat),c.vars.take i=d.vars.take i∧q.ts 2= .ptr (B + 0) g0 0 0∧q.ts 3= .ptr (B + 1) g1 0 0∧q.ts 5= .int .i64 (i:Int)∧q.h=D++[.blk g0 [z0f c] false false 0, .blk g1 [z0f d] false false 0]) ⟨_,_,by simp,rfl,rfl,rfl,rfl⟩ ?_ ?_
 ·rintro i hlt f1 f2 ts h clk P ⟨g0,g1,he0,q2,q3,q5,rfl⟩ hnx he hr
  dsimp only at q2 q3 q5
  have hlt2:i < d.vars.length:=by omega
  have hx:∀ h,z1m h 2 (.sl (c.vars.map z1b) .no) (.int .i64 (i:Int))=some (.iptr [.str c.vars[i].name, .int .i64 (c.vars[i].sort:Int)] 0,h):=fun h=>z2f hlt rfl rfl
  have hy:∀ h,z1m h 2 (.sl (d.vars.map z1b) .no) (.int .i64 (i:Int))=some (.iptr [.str d.vars[i].name, .int .i64 (d.vars[i].sort:Int)] 0,h):=fun h=>z2f hlt2 rfl rfl
  cases hcd:decide (c.vars[i]=d.vars[i]) with
  | true=>
    simp only[go_sem,g0d,hB,z0f,z0l,q2,q3,q5,f1,f2,List.length_map,hx,hy,u9j,hcd,Bool.not_true]
    exact hnx _ ⟨g0,g1,u8r hlt hlt2 he0 (of_decide_eq_true hcd),q2,q3,rfl,rfl⟩
  | false=>
    simp only[go_sem,g0d,hB,z0f,z0l,q2,q3,q5,f1,f2,List.length_map,hx,hy,u9j,hcd,Bool.not_false]
    refine hr _ ?_
    rw[decide_eq_false fun e:c.vars=d.vars=>of_decide_eq_false hcd (by simp only[e])] at hT
    simp only[go_sem,]
    rw[z0e]
    exact hT _
 ·rintro f1 ts h clk P ⟨g0,g1,he0,q2,q3,q5,rfl⟩ he hr
  dsimp only at q2 q3 q5
  simp only[go_sem,g0d,hB,z0f,z0l,q2,q3,q5,List.length_map,f1]
  refine he _ _ ?_
  rw[List.take_length,hl1',List.take_length] at he0
  rw[decide_eq_true he0,Bool.true_and] at hT
  simp only[go_sem,]
  refine z6z c.body.length (by omega) (fun i q=>c.body.take i=d.body.take i∧q.ts 2= .ptr (B + 0) g0 0 0∧q.ts 3= .ptr (B + 1) g1 0 0∧q.ts 6= .int .i64 (i:Int)∧q.h=D++[.blk g0 [z0f c] false false 0, .blk g1 [z0f d] false false 0]) ⟨by simp,by simp[z0b,q2],by simp[z0b,q3],by simp[z0b],by simp only[z0f,z0l]⟩ ?_ ?_
  ·clear q2 q3 q5 f1
   rintro i hlt f1 f2 ts h clk P ⟨he0,q2,q3,q6,rfl⟩ hnx he hr
   dsimp only at q2 q3 q6
   have hlt2:i < d.body.length:=by omega
   have hx:=fun h=>j1a (l:=c.body) (i:=i) (h:=h) (t:= .no) (k:= .i64) hlt
   have hy:=fun h=>j1a (l:=d.body) (i:=i) (h:=h) (t:= .no) (k:= .i64) hlt2
   have p3:=u9k (hc.atoms _ (List.getElem_mem hlt)) (hd.atoms _ (List.getElem_mem hlt2))
   simp only[z3x] at p3
   cases hcd:decide (c.body[i]=d.body[i]) with
   | true=>
     rw[hcd] at p3
     simp only[go_sem,g0c,hB,z0f,z0l,q2,q3,q6,f1,f2,List.length_map,hx,hy,z0a p3,Bool.not_true]
     exact hnx _ ⟨u8r hlt hlt2 he0 (of_decide_eq_true hcd),q2,q3,rfl,rfl⟩
   | false=>
     rw[hcd] at p3
     simp only[go_sem,g0c,hB,z0f,z0l,q2,q3,q6,f1,f2,List.length_map,hx,hy,z0a p3,Bool.not_false]
     refine hr _ ?_
     rw[decide_eq_false fun e:c.body=d.body=>of_decide_eq_false hcd (by simp only[e])] at hT
     simp only[go_sem,]
     rw[z0e]
     exact hT _
  ·clear q2 q3 q5 f1
   rintro f1 ts h clk P ⟨he0,q2,q3,q6,rfl⟩ he hr
   dsimp only at q2 q3 q6
   simp only[go_sem,g0c,hB,z0f,z0l,q2,q3,q6,List.length_map,f1]
   refine he _ _ ?_
   rw[List.take_length,hl2',List.take_length] at he0
   rw[decide_eq_true he0] at hT
   simp only[go_sem,]
   rw[z0e]
   exact hT _
theorem u7s {p q:List Nat} {c:Clause} (h:CmpC c):CmpC (u6m p q c):=by
 refine⟨h.vars,by simp[u6m,h.body],h.guard,h.head,fun a ha=> ?_⟩
 obtain⟨b,hb,rfl⟩:=List.mem_map.1 ha
 exact h.atoms b hb
theorem u7t {ps:List Func} (hn:(ps.map (·.name)).Nodup) {i k:Nat} (hi:i < ps.length) (hk:k < ps.length) (h:i≠k):ps[i].name≠ps[k].name:=fun e=>by
 have hp:=List.pairwise_iff_getElem.1 hn
 rcases Nat.lt_or_gt_of_ne h with h | h
 ·exact hp i k (by simpa using hi) (by simpa using hk) h (by simpa using e)
 ·exact hp k i (by simpa using hk) (by simpa using hi) h (by simpa using e.symm)
theorem g1d {s:Sys} {i k:Nat} (hl:s.clauses.length≤2 ^ 18) (hc:∀ c∈s.clauses,CmpC c) (hn:(s.preds.map (·.name)).Nodup) (hpa:∀ f∈s.preds,f.args.length≤20000) (hpl:s.preds.length≤1000) (hi:i < s.preds.length) (hk:k < s.preds.length):Pure Gam 90 [z0x s,nat i,nat k] (.bool (u6n s s.preds[i] s.preds[k])):=by
 have hix:=fun h=>z6g (l:=s.preds) (i:=i) (h:=h) (t:= .no) (k:= .i64) hi
 have hkx:=fun h=>z6g (l:=s.preds) (i:=k) (h:=h) (t:= .no) (k:= .i64) hk
 have p1:=g2w (xs:=s.preds[i].args) (ys:=s.preds[k].args) (u:= .no) (v:= .no) (hpa _ (List.getElem_mem hi)) (hpa _ (List.getElem_mem hk))
 have hne:i≠k→s.preds[i].name≠s.preds[k].name:=u7t hn hi hk
 have heq:i=k→s.preds[i].name=s.preds[k].name:=fun h=>by subst h;rfl
 generalize s.preds[i]=p at *
 generalize s.preds[k]=q at *
 have p2:=u8n (s:=s) (a:=p.name) hl
 have p3:=u8n (s:=s) (a:=q.name) hl
 simp only[z0x] at p2 p3
 refine Pure.of rfl g6g rfl rfl rfl (az:=[z0x s,nat i,nat k]) rfl (by simp[idsL,z2c,z3c]) fun D B clk T hB hT=> ?_
 unfold u6n at hT
 cases h1:decide (i=k) with
 | true=>
   rw[decide_eq_true (heq (of_decide_eq_true h1))] at hT
   simp only[go_sem,g2s,hB,z0x,nat,u6g,h1]
   rw[z0e]
   exact hT _
 | false=>
 rw[decide_eq_false (hne (of_decide_eq_false h1)),Bool.not_false,Bool.true_and] at hT
 cases h2:decide (p.args=q.args) with
 | false=>
   rw[h2] at hT p1
   simp only[go_sem,g2s,hB,z0x,nat,u6g,h1,hix,hkx,z0a p1,Bool.not_false]
   rw[z0e]
   exact hT _
 | true=>
 rw[h2,Bool.true_and] at hT
 rw[h2] at p1
 have hal:(cls s p.name).length≤2 ^ 20:=Nat.le_trans u6z (by omega)
 have hbl:(cls s q.name).length≤2 ^ 20:=Nat.le_trans u6z (by omega)
 have hat:∀ j∈cls s p.name,j < s.clauses.length:=fun j hj=>u7h hj
 have hbt:∀ j∈cls s q.name,j < s.clauses.length:=fun j hj=>u7h hj
 generalize cls s p.name=a at *
 generalize cls s q.name=b at *
 cases h3:decide (a.length=b.length) with
 | false=>
   rw[decide_eq_false fun e=>of_decide_eq_false h3 (by simpa using congrArg List.length e)] at hT
   simp only[go_sem,g2s,hB,z0x,nat,u6g,h1,hix,hkx,z0a p1,z0a p2,z0a p3,Bool.not_true,z1i]
   refine⟨by simp[z1f,apart,z0i,z1d,z1h,AOp.isCall,hB,AV.ids,idsL,z0c z2j,z0c z1z,q5e], ?_⟩
   simp only[go_sem,hB,List.length_map,u6g,h3,Bool.not_false]
   rw[z0e]
   exact hT _
 | true=>
 have h3':=of_decide_eq_true h3
 simp only[go_sem,g2s,hB,z0x,nat,u6g,h1,hix,hkx,z0a p1,z0a p2,z0a p3,Bool.not_true,z1i]
 refine⟨by simp[z1f,apart,z0i,z1d,z1h,AOp.isCall,hB,AV.ids,idsL,z0c z2j,z0c z1z,q5e], ?_⟩
 simp only[go_sem,hB,List.length_map,u6g,h3,Bool.not_true]
 refine z6z a.length (by omega) (fun j r=>∃ (g0:Nat),(a.take j).map (fun i=>u6m p.name q.name (u6r s i))=(b.take j).map (fun i=>u6m p.name q.name (u6r s i))∧r.ts 1= .int .i64 (i:Int)∧r.ts 2= .int .i64 (k:Int)∧r.ts 3= .ptr (B + 0) g0 0 0∧r.ts 7= .sl (a.map nat) .no∧r.ts 8= .sl (b.map nat) .no∧r.ts 9= .int .i64 (j:Int)∧r.h=D++[.blk g0 [z0x s] false false 0]) ⟨_,by simp,by rfl,by rfl,rfl,rfl,rfl,rfl,rfl⟩ ?_ ?_
 ·rintro j hlt f1 f2 ts h clk P ⟨g0,he0,q1,q2,q3,q7,q8,q9,rfl⟩ hnx he hr
  dsimp only at q1 q2 q3 q7 q8 q9
  have hlt2:j < b.length:=by omega
  have hx:=fun h=>q9k (l:=a) (i:=j) (h:=h) (t:= .no) (k:= .i64) hlt
  have hy:=fun h=>q9k (l:=b) (i:=j) (h:=h) (t:= .no) (k:= .i64) hlt2
  have ha':=hat _ (List.getElem_mem hlt)
  have hb':=hbt _ (List.getElem_mem hlt2)
  have hst:u6m p.name q.name (u6r s a[j])=u6m p.name q.name (u6r s b[j])→(a.take (j + 1)).map (fun i=>u6m p.name q.name (u6r s i))=(b.take (j + 1)).map (fun i=>u6m p.name q.name (u6r s i)):=fun e=>by
   rw[List.take_succ_eq_append_getElem hlt,List.take_succ_eq_append_getElem hlt2,List.map_append,List.map_append,he0,List.map_singleton,List.map_singleton,e]
  have hbad:u6m p.name q.name (u6r s a[j])≠u6m p.name q.name (u6r s b[j])→a.map (fun i=>u6m p.name q.name (u6r s i))≠b.map (fun i=>u6m p.name q.name (u6r s i)):=fun e h=>e (by
   have:=congrArg (fun l=>l[j]?) h
   simpa [hlt,hlt2] using this)
  simp only[nat] at hx hy
  generalize a[j]=u at *
  generalize b[j]=v at *
  rw[u7a ha',u7a hb'] at hst hbad
  have hu:=fun h=>z8l (l:=s.clauses) (i:=u) (h:=h) (t:= .no) (k:= .i64) ha'
  have hv:=fun h=>z8l (l:=s.clauses) (i:=v) (h:=h) (t:= .no) (k:= .i64) hb'
  have c1:=hc _ (List.getElem_mem ha')
  have c2:=hc _ (List.getElem_mem hb')
  generalize s.clauses[u]=c at *
  generalize s.clauses[v]=d at *
  have r1:=u9i (p:=p.name) (q:=q.name) c1.body
  have r2:=u9i (p:=p.name) (q:=q.name) c2.body
  have r3:=g2x (u7s (p:=p.name) (q:=q.name) c1) (u7s (p:=p.name) (q:=q.name) c2)
  cases hcd:decide (u6m p.name q.name c=u6m p.name q.name d) with
  | true=>
    have:=hst (of_decide_eq_true hcd)
    rw[hcd] at r3
    generalize u6m p.name q.name c=c' at *
    generalize u6m p.name q.name d=d' at *
    simp only[z0f,z0l] at r1 r2 r3
    simp only[go_sem,g0f,z0x,q1,q2,q3,q7,q8,q9,hB,f1,f2,List.length_map,hx,hy,hu,hv,hix,hkx,z1i,z0a r1,z0a r2,z0a r3,Bool.not_true]
    refine⟨by simp[z1f,apart,z0i,z1d,z1h,AOp.isCall,hB,AV.ids,idsL,z0c z2j,z0c z1z,q5e,z0c z2b,z0c z4w,z0c z1y,z0c z2q], ?_⟩
    exact hnx _ ⟨g0,this,q1,q2,q3,q7,q8,rfl,rfl⟩
  | false=>
    rw[decide_eq_false (hbad (of_decide_eq_false hcd))] at hT
    rw[hcd] at r3
    generalize u6m p.name q.name c=c' at *
    generalize u6m p.name q.name d=d' at *
    simp only[z0f,z0l] at r1 r2 r3
    simp only[go_sem,g0f,z0x,q1,q2,q3,q7,q8,q9,hB,f1,f2,List.length_map,hx,hy,hu,hv,hix,hkx,z1i,z0a r1,z0a r2,z0a r3,Bool.not_false]
    refine⟨by simp[z1f,apart,z0i,z1d,z1h,AOp.isCall,hB,AV.ids,idsL,z0c z2j,z0c z1z,q5e,z0c z2b,z0c z4w,z0c z1y,z0c z2q], ?_⟩
    refine hr _ ?_
    simp only[go_sem,]
    rw[z0e]
    exact hT _
 ·rintro f1 ts h clk P ⟨g0,he0,q1,q2,q3,q7,q8,q9,rfl⟩ he hr
  dsimp only at q1 q2 q3 q7 q8 q9
  simp only[go_sem,g0f,q7,q9,List.length_map,f1]
  refine he _ _ ?_
  rw[List.take_length,h3',List.take_length] at he0
  rw[decide_eq_true he0] at hT
  simp only[go_sem,]
  rw[z0e]
  exact hT _
theorem j7b {ps:List Func} {nm:List Nat}:decide (z4s ps nm < 0)= !decide (nm∈ps.map (·.name)):=by
 by_cases h:nm∈ps.map (·.name)
 ·rw[decide_eq_true h]
  unfold z4s
  cases hf:ps.findIdx? (fun p=>decide (p.name=nm)) with
  | none=>
    rw[List.findIdx?_eq_none_iff] at hf
    obtain⟨f,hf1,hf2⟩:=List.mem_map.1 h
    have:=hf f hf1
    simp[hf2] at this
  | some i=>simp
 ·rw[decide_eq_false h,z7i fun p hp e=>h (List.mem_map.2 ⟨p,hp,e⟩)]
  rfl
structure TfS (x:Tf):Prop where
 un:x.un.length≤100
 und:x.und.length≤100
 drops:idsL x.drops=[]
theorem TfS.ok {x:Tf} (h:TfS x):TfOk x:=⟨by have:=h.un;omega,by have:=h.und;omega,h.drops⟩
def x0n:Sys:=⟨[],[]⟩
theorem k8a {H:List AObj} {p q es:List AV} {u v:Tip} {a b c d:Nat} {k:IntKind} {z:Int} (h:z5a H (.ob a b c d)=some es):conv H (z1k [.agg [.sl p u, .sl q v], .ob a b c d, .int k z])=some (.tup [.agg [.sl p .no, .sl q .no], .sl es .no, .int k z]):=by
 simp only[z5a] at h
 simp only[z1k,conv,z9t,h,Option.map_some]
def u6v (x:Tf):Bool:=decide (x.kind=6) && decide (x.clause=0) && decide (x.atom=0) && decide (x.un=[]) && decide (x.und=[]) && decide (x.drops=[])
theorem u8o {α:Type} [DecidableEq α] {l:List α}:decide ((l.length:Int)=0)=decide (l=[]):=by
 cases l with
 | nil=>rfl
 | cons a l=>simp;omega
theorem g1t {x:Tf} (hx:TfOk x):Pure Gam 96 [eTf x, .int .i64 6] (.bool (u6v x)):=by
 refine Pure.of rfl u4l rfl rfl rfl (az:=[eTf x, .int .i64 6]) rfl (by simp[idsL,AV.ids,z6y hx]) fun D B clk T hB hT=> ?_
 have hls:∀ l:List (List Nat),decide (((z1t l).length:Int)=0)=decide (l=[]):=fun l=>by rw[z1t,List.length_map,u8o]
 unfold u6v at hT
 cases b1:decide (x.kind=6) <;> rw[b1] at hT
 ·simp only[go_sem,v5h,hB,eTf,b1,Bool.not_false]
  rw[z0e]
  exact hT _
 cases b2:decide (x.clause=0) <;> rw[b2] at hT
 ·simp only[go_sem,v5h,hB,eTf,b1,b2,Bool.not_true,Int.reduceEq,decide_true,decide_false]
  rw[z0e]
  exact hT _
 cases b3:decide (x.atom=0) <;> rw[b3] at hT
 ·simp only[go_sem,v5h,hB,eTf,b1,b2,b3,Bool.not_true,Int.reduceEq,decide_true,decide_false]
  rw[z0e]
  exact hT _
 cases b4:decide (x.un=[]) <;> rw[b4] at hT
 ·simp only[go_sem,v5h,hB,eTf,b1,b2,b3,hls,b4,Bool.not_true,Int.reduceEq,decide_true,decide_false]
  rw[z0e]
  exact hT _
 cases b5:decide (x.und=[]) <;> rw[b5] at hT
 ·simp only[go_sem,v5h,hB,eTf,b1,b2,b3,hls,b4,b5,Bool.not_true,Int.reduceEq,decide_true,decide_false]
  rw[z0e]
  exact hT _
 simp only[go_sem,v5h,hB,eTf,b1,b2,b3,hls,b4,b5,Bool.not_true,Int.reduceEq,decide_true,decide_false,x8c]
 rw[z0e]
 simpa using hT _
def MOk (s:Sys) (x:Tf):Prop:=∃ f g,f∈s.preds∧g∈s.preds∧f.name=x.pred∧g.name=x.into∧u6n s f g=true
def u6q (x:Tf) (ps:List Func):List Func:=ps.filter fun f=> !decide (f.name=x.pred)
def u6s (x:Tf) (cs:List Clause):List Clause:=(cs.filter fun c=> !decide (c.head.pred=x.pred)).map (u6m x.pred x.into)
def merged (s:Sys) (x:Tf):Sys:=⟨u6q x s.preds,u6s x s.clauses⟩
open Classical in
noncomputable def u6f (s:Sys) (x:Tf):Sys×Int:=if u6v x=false then (x0n,1) else if ¬ MOk s x then (x0n,8) else (merged s x,0)
theorem u6k {s:Sys} {x:Tf} (h:u6v x=false):u6f s x=(x0n,1):=by
 unfold u6f
 rw[if_pos h]
theorem u6i {s:Sys} {x:Tf} (h:u6v x=true) (hn:¬ MOk s x):u6f s x=(x0n,8):=by
 unfold u6f
 rw[if_neg (by rw[h];simp),if_pos hn]
theorem u6l {s:Sys} {x:Tf} (h:u6v x=true) (hn:MOk s x):u6f s x=(merged s x,0):=by
 unfold u6f
 rw[if_neg (by rw[h];simp),if_neg (not_not_intro hn)]
theorem u6w {ps:List Func} {nm:List Nat} (h:nm∈ps.map (·.name)):∃ (i:Nat) (hi:i < ps.length),ps[i].name=nm∧z4s ps nm=(i:Int):=by
 unfold z4s
 cases e:ps.findIdx? (fun p=>decide (p.name=nm)) with
 | some i=>
   rw[List.findIdx?_eq_some_iff_getElem] at e
   obtain⟨hi,h1,_⟩:=e
   exact⟨i,hi,of_decide_eq_true h1,rfl⟩
 | none=>
   rw[List.findIdx?_eq_none_iff] at e
   obtain⟨p,hp,rfl⟩:=List.mem_map.1 h
   have:=e p hp
   simp at this
theorem u7c {ps:List Func} (hn:(ps.map (·.name)).Nodup) {f:Func} {i:Nat} (hi:i < ps.length) (hf:f∈ps) (h:ps[i].name=f.name):f=ps[i]:=by
 obtain⟨k,hk,rfl⟩:=List.getElem_of_mem hf
 by_cases e:i=k
 ·subst e;rfl
 ·exact absurd h (u7t hn hi hk e)
def H41 (g0 gx g2 g9:Nat) (s:Sys) (x:Tf) (pv cv:AV) (r:List AObj):List AObj:= .blk g0 [z0x s] false false 0:: .blk gx [eTf x] false false 0:: .blk g2 [.agg [.sl [] .nil, .sl [] .nil]] false false 0:: .blk g9 [.agg [pv,cv]] false false 0::r
theorem u7i {x:Tf} {ps:List Func} {i:Nat} (hi:i < ps.length):u6q x (ps.take (i + 1))=u6q x (ps.take i)++if ps[i].name=x.pred then [] else [ps[i]]:=by
 unfold u6q
 rw[List.take_succ_eq_append_getElem hi,List.filter_append]
 by_cases h:ps[i].name=x.pred <;> simp[h]
theorem u7j {x:Tf} {cs:List Clause} {i:Nat} (hi:i < cs.length):u6s x (cs.take (i + 1))=u6s x (cs.take i)++if cs[i].head.pred=x.pred then [] else [u6m x.pred x.into cs[i]]:=by
 unfold u6s
 rw[List.take_succ_eq_append_getElem hi,List.filter_append,List.map_append]
 by_cases h:cs[i].head.pred=x.pred <;> simp[h]
theorem u6x {x:Tf} {ps:List Func}:(u6q x ps).length≤ps.length:=List.length_filter_le _ _
theorem u7d {x:Tf} {cs:List Clause}:(u6s x cs).length≤cs.length:=by
 unfold u6s
 rw[List.length_map]
 exact List.length_filter_le _ _
theorem u8d {s:Sys} {x:Tf} {p0 B clk g0 gx g2 g9:Nat} {D:List AObj} {o4 o5 o6 o7 o8:AObj} {v8:AV} {ts:Tmps} {ks:List Kf} {Q:Post} (hB:D.length=B) (hpl:s.preds.length≤1000) (hn:(s.preds.map (·.name)).Nodup) (hp:p0 < s.preds.length) (hx:s.preds[p0].name=x.pred) (h2:ts 2= .ptr (B + 0) g0 0 0) (h3:ts 3= .ptr (B + 1) gx 0 0) (h4:ts 4= .ptr (B + 2) g2 0 0) (h7:ts 7= .int .i64 (p0:Int)) (h8:ts 8=v8) (h9:ts 9= .ptr (B + 3) g9 0 0) (h10:ts 10= .int .i64 0)
  (hok:∀ (ts':Tmps) (t:Tip) (o4 o5:AObj) (clk':Nat),ts' 2= .ptr (B + 0) g0 0 0→ts' 3= .ptr (B + 1) gx 0 0→ts' 4= .ptr (B + 2) g2 0 0→ts' 9= .ptr (B + 3) g9 0 0→K Gam B (.exit 0) ks ⟨ts',D++H41 g0 gx g2 g9 s x (.sl ((u6q x s.preds).map z0q) t) (.sl [] .nil) [o4,o5,o6,o7,o8],clk'⟩ Q):
  K Gam B (.loop u9d) ks ⟨ts,D++H41 g0 gx g2 g9 s x (.sl [] .nil) (.sl [] .nil) [o4,o5,o6,o7,o8],clk⟩ Q:=by
 refine z6z s.preds.length (by omega) (fun i q=>∃ (t:Tip) (o4 o5:AObj),q.ts 2= .ptr (B + 0) g0 0 0∧q.ts 3= .ptr (B + 1) gx 0 0∧q.ts 4= .ptr (B + 2) g2 0 0∧q.ts 7= .int .i64 (p0:Int)∧q.ts 9= .ptr (B + 3) g9 0 0∧q.ts 10= .int .i64 (i:Int)∧q.h=D++H41 g0 gx g2 g9 s x (.sl ((u6q x (s.preds.take i)).map z0q) t) (.sl [] .nil) [o4,o5,o6,o7,o8]∧z8k B 5 o5 t 3) ⟨.nil,_,_,h2,h3,h4,h7,h9,h10,rfl, .inl rfl⟩ ?_ ?_
 ·clear h2 h3 h4 h7 h9 h10
  rintro i hlt f1 f2 ts h clk P ⟨t,o4,o5,q2,q3,q4,q7,q9,q10,rfl,ht⟩ hnx he hr
  dsimp only at q2 q3 q4 q7 q9 q10
  have hix:=fun h=>z6g (l:=s.preds) (i:=i) (h:=h) (t:= .no) (k:= .i64) hlt
  have hkp:=u7i (x:=x) hlt
  have hkl:(u6q x (s.preds.take i)).length≤1000:=Nat.le_trans u6x (by rw[List.length_take];omega)
  by_cases hip:i=p0
  ·subst hip
   rw[if_pos hx,List.append_nil] at hkp
   simp only[go_sem,u9d,H41,z0x,q2,q3,q4,q7,q9,q10,hB,f1,f2,List.length_map,decide_true,Bool.not_true]
   exact hnx _ ⟨t,_,_,q2,q3,q4,q7,q9,rfl,by rw[hkp];rfl,ht⟩
  ·have hd:decide ((i:Int)=(p0:Int))=false:=by rw[decide_eq_false_iff_not];omega
   have hnn:s.preds[i].name≠x.pred:=by rw[←hx];exact u7t hn hlt hp hip
   rw[if_neg hnn] at hkp
   generalize s.preds[i]=f at *
   have e8:(u6q x (s.preds.take i)).map z0q++[f].map z0q=(u6q x (s.preds.take (i + 1))).map z0q:=by rw[hkp,List.map_append]
   simp only[go_sem,u9d,H41,z0x,q2,q3,q4,q7,q9,q10,hB,f1,z1i,List.length_map,hd,Bool.not_false,hix]
   rw[show [AV.agg [.str f.name, .sl (f.args.map nat) .no, .int .i64 (f.result:Int)]]=[f].map z0q from rfl,z0j hB rfl ht z4o z4o (by simp only[List.length_map,List.length_singleton];omega),e8]
   simp only[go_sem,q2,q3,q4,q7,q9,q10,hB,f2]
   refine⟨by simp[z1f,apart,z0i,z1d,z1h,AOp.isCall,hB,AV.ids,idsL,z0c z2j,z0c z1z], ?_⟩
   exact hnx _ ⟨_,_,_,q2,q3,q4,q7,q9,rfl,rfl, .inr (.inr ⟨_,rfl,rfl⟩)⟩
 ·clear h2 h3 h4 h7 h9 h10
  rintro f1 ts h clk P ⟨t,o4,o5,q2,q3,q4,q7,q9,q10,rfl,ht⟩ he hr
  dsimp only at q2 q3 q4 q7 q9 q10
  rw[List.take_length]
  simp only[go_sem,u9d,H41,z0x,q2,q3,q4,q7,q9,q10,hB,f1,List.length_map]
  exact he _ _ (hok _ t _ _ _ (by simp[z0b,q2]) (by simp[z0b,q3]) (by simp[z0b,q4]) (by simp[z0b,q9]))
end Go.Proofs.YtahdahokpjigiaaGreatDoor.Am
