/- The abstract machine's loops that go backward over a row stand for the model's The abstract machine's code stands for the model's: all code, by the fuel The abstract machine's calls stand for the mode -/
import Derived.Below
import Derived.Laws.World
import Derived.Test.YtdfepmffiampgaaGreatDoorM06
set_option linter.all false
namespace Go.Proofs.YtdfepmffiampgaaGreatDoor.Am
open Go
set_option maxRecDepth 100000
section
variable {P:Program} {G:Ghost} {I:Imm} {h:List AObj} {w:World}
theorem k6e {s b:Nat} {o:AObj} (hob:ObjR G I w s o) (ho:own G o=some b):(∃ cs t z,w.heap[b]? =some (.cells cs t z))∨∃ e c,w.heap[b]? =some (.map e c):=by
 cases o with
 | dead=>simp[own] at ho
 | blk g es row grow fz=>
   obtain⟨i,cs,t,h1,_,h3,_⟩:=hob
   simp[own,h1] at ho
   subst ho
   exact .inl ⟨_,_,_,h3⟩
 | tip g e=>
   obtain⟨i,h1,_,_,h3⟩:=hob
   simp[own,h1] at ho
   obtain⟨hr,rfl⟩:=ho
   obtain⟨cs,t,h4,_⟩:=h3 hr
   exact .inl ⟨_,_,_,h4⟩
 | map g es=>
   obtain⟨i,ents,clk,h1,_,h3,_⟩:=hob
   simp[own,h1] at ho
   subst ho
   exact .inr ⟨_,_,h3⟩
def Odd (o:Obj):Prop:=(∀ cs t z,o≠ .cells cs t z)∧∀ e c,o≠ .map e c
theorem q9g {l:Nat} {o:Obj} (rel:Rel G I h w) (hl:w.heap[l]? =some o) (hodd:Odd o):∀ (i:Nat) x,h[i]? =some x→own G x≠some l:=fun i x hi hx=>by
 rcases k6e (rel.obj i x hi) hx with ⟨cs,t,z,h1⟩ | ⟨e,c,h1⟩
 ·rw[hl] at h1
  simp only[Option.some.injEq] at h1
  exact hodd.1 _ _ _ h1
 ·rw[hl] at h1
  simp only[Option.some.injEq] at h1
  exact hodd.2 _ _ h1
theorem Rel.putObj {l:Nat} {o o':Obj} (rel:Rel G I h w) (hl:w.heap[l]? =some o) (hodd:Odd o):Rel G I h (w.putObj l o'):=by
 refine⟨fun b c v hv=> ?_,fun i x hx=> ?_,rel.inj⟩
 ·have hc:=rel.imm b c v hv
  refine z5t hc fun x hx=> ?_
  have hne:b≠l:=fun e=>by
   subst e
   simp only at hx
   rw[hl] at hx
   simp only[Option.some.injEq] at hx
   subst hx
   unfold World.cell? at hc
   simp only[hl] at hc
   cases o with
   | cells cs t z=>exact hodd.1 _ _ _ rfl
   | _=>simp at hc
  exact (World.putObj_heap_other hne).trans hx
 ·refine (rel.obj i x hx).world fun b hb=>World.putObj_heap_other fun e=> ?_
  subst e
  exact q9g rel hl hodd i x hx hb
theorem Ran.putObj {base clk l:Nat} {G':Ghost} {I':Imm} {h':List AObj} {w':World} {o o':Obj} (r:Ran base clk G I h w G' I' h' w') (hl:w'.heap[l]? =some o) (hodd:Odd o) (hlo:w.heap.size≤l):Ran base clk G I h w G' I' h' (w'.putObj l o'):=
 ⟨r.rel.putObj hl hodd,r.gle,r.ile,r.slots,r.own,⟨r.fr.os,r.fr.tape,r.fr.output,by rw[World.putObj_size];exact r.fr.size,fun b hb hn=>by
  rw[World.putObj_heap_other (by omega)]
  exact r.fr.kept b hb hn⟩,r.ifr⟩
theorem Ran.drawn {base clk:Nat} {G':Ghost} {I':Imm} {h':List AObj} {w':World} {d:Nat} (r:Ran base clk G I h w G' I' h' w'):Ran base clk G I h w G' I' h' {w' with drawn:=d}:=
 ⟨r.rel.world fun _ _ hx=>hx,r.gle,r.ile,r.slots,r.own,⟨r.fr.os,r.fr.tape,r.fr.output,r.fr.size,r.fr.kept⟩,r.ifr⟩
theorem Ran.odd {base clk l:Nat} {G':Ghost} {I':Imm} {h':List AObj} {w':World} {o:Obj} (r:Ran base clk G I h w G' I' h' w') (rel:Rel G I h w) (hl:w.heap[l]? =some o) (hodd:Odd o):w'.heap[l]? =some o:=by
 rw[r.fr.kept l (Array.getElem?_eq_some_iff.1 hl).1 (q9g rel hl hodd)]
 exact hl
theorem q4y {r:Loop}:Odd (.loop r):=⟨fun _ _ _=>by simp,fun _ _=>by simp⟩
theorem q1y {x:Option (List Deferred)}:Odd (.deferred x):=⟨fun _ _ _=>by simp,fun _ _=>by simp⟩
theorem k0h {v x:AV} {A:Option Addr} {n c i:Nat} (rel:Rel G I h w) (hv:VR G I v (.slice A n c)) (hn:z7g v=some n) (hi:i < n) (hx:q7a h v i=some x):
  ∃ bA oA vx,A=some ⟨bA,oA,none⟩∧n≤c∧w.cell? ⟨bA,oA + i,none⟩=some vx∧VR G I x vx:=by
 have hone:∀ y:AV,y.one=true→y.cells=[y]:=fun y hy=>by cases y <;> simp[AV.one] at hy <;> rfl
 cases v <;> simp only[z7g] at hn
 case sl xs t=>
  split at hn
  ·simp only[Option.some.injEq] at hn
   simp only[VR] at hv
   obtain⟨A',n',c',h1,h2,h3,_,h4⟩:=hv
   simp only[Value.slice.injEq] at h1
   obtain⟨rfl,rfl,rfl⟩:=h1
   simp only[q7a,z4e] at hx
   split at hx
   ·rename_i y hy
    split at hx
    ·rename_i h5
     simp only[Option.some.injEq] at hx
     subst hx
     rcases h4 with h4 | ⟨b,o,e,rfl,h6,h7⟩
     ·omega
     ·obtain⟨h8,h9⟩:=z6j.1 h7 i y hy
      rw[hone y h5] at h8 h9
      simp only[List.length_cons,List.length_nil] at h8
      subst h8
      rw[q0s] at h9
      obtain⟨⟨cv,h10,h11⟩,_⟩:=h9
      exact⟨b,o,cv,rfl,h3,by simpa using rel.imm _ _ _ h10,h11⟩
    ·simp at hx
   ·simp at hx
  ·simp at hn
 case ob s g off len=>
  split at hn
  ·simp only[Option.some.injEq] at hn
   subst hn
   simp only[VR] at hv
   obtain⟨gi,A',c',h1,h2,h3,h4,h5,h6⟩:=hv
   simp only[Value.slice.injEq] at h3
   obtain⟨rfl,_,rfl⟩:=h3
   simp only[q7a,z4e,q0r] at hx
   split at hx
   ·rename_i xs hxs
    split at hxs
    ·rename_i es grow fz hb
     split at hxs
     ·rename_i hle
      simp only[Option.some.injEq] at hxs
      subst hxs
      split at hx
      ·rename_i y hy
       split at hx
       ·rename_i h7
        simp only[Option.some.injEq] at hx
        subst hx
        have hy2:es[off + i]? =some y:=by
         simpa [List.getElem?_take,hi,List.getElem?_drop] using hy
        obtain⟨gi',cs,ty,g1,_,g3,_,g5,_,_,_,hE,_⟩:=rel.obj s _ (z9l hb)
        obtain rfl:gi=gi':=by rw[h1] at g1;simpa using g1
        obtain⟨e1,e2⟩:=hE _ y hy2
        rw[hone y h7] at e1 e2
        simp only[List.length_cons,List.length_nil] at e1
        obtain⟨cv,h10,h11⟩:=e2 0 y rfl
        rw[←e1] at h10 h6
        rcases h6 with h6 | h6
        ·omega
        ·refine⟨gi.blk,off,cv,by simpa using h6,h4, ?_,h11⟩
         unfold World.cell?
         simp only[g3]
         simpa using h10
       ·simp at hx
      ·simp at hx
     ·simp at hxs
    ·simp at hxs
   ·simp at hx
  ·simp at hn
 all_goals simp at hn
theorem v6y {ps:Array Nat} {p q:Nat} {x y:Value} {t:Array Value} (hps:ps.toList=[p,q]):(ps.zip #[x,y]).foldl (fun t (p,v)=>t.setIfInBounds p v) t=(t.setIfInBounds p x).setIfInBounds q y:=by
 obtain⟨l⟩:=ps
 simp only at hps
 subst hps
 simp
theorem k6f {back:Nat→Option Nat} {E:Nat→ACode→St→Option (AEx×St)} (hE:x2q P back E) {nt B:Nat} {mu:Nat→Nat→Bool} {al:Nat→Nat} {base n n1 n2:Nat} {f:Operand} {ps:Array Nat} {x:AOpd} {p p':Nat} {assign body:Code} {a' b':ACode} {s:St} {v:AV} {k len:Nat} {m:List AObj×Nat}
  (hf1:z6o f=some x) (hps:ps.toList=[p,p']) (ha:z8t P back nt mu al n assign=some (a',n1)) (hb:z8t P back nt mu al n1 body=some (b',n2)) (hna:a'.noRange=true) (hnb:b'.noRange=true) (hp:p < nt) (hp':p' < nt) (heq:x.ev s.ts= .bwd k v) (hlen:z7g v=some len) (hI:k0f P k) (hk:∀ args w,(callFunc k args).run P w= .ok (.enter k args) w)
  (hr:q1t (fun s=>match E base a' s with
      | some (.norm,s')=>E base b' s'
      | r=>r) v s.ts p p' len (s.h,s.clk)=some m) (hbase:base≤s.h.length) {a:Act} {q:Nat} {Q:Exit→Act→World→Prop} (hl:Live nt B G I s a w) (hf:Fresh G s.clk) (hQ:Came base nt B s.clk G I s w ⟨s.ts,m.1,m.2⟩ (Q .normal)):(Code.rangeFunc f ps assign body).wpIn (q7g none) q P Q a w:=by
 have hv:=z1i hl.tmps.eval hf1
 rw[heq] at hv
 simp only[VR] at hv
 obtain⟨bc,y,hfv,hIb,hvy⟩:=hv
 obtain⟨A,c,rfl⟩:∃ A c,y= .slice A len c:=by
  cases v <;> simp only[z7g] at hlen
  case sl xs t=>
   split at hlen
   ·simp only[Option.some.injEq] at hlen
    simp only[VR] at hvy
    obtain⟨A,n',c,rfl,h2,_⟩:=hvy
    exact⟨A,c,by rw[←hlen,h2]⟩
   ·simp at hlen
  case ob s g off l=>
   split at hlen
   ·simp only[Option.some.injEq] at hlen
    simp only[VR] at hvy
    obtain⟨i,A,c,_,_,rfl,_⟩:=hvy
    exact⟨A,c,by rw[hlen]⟩
   ·simp at hlen
  all_goals simp at hlen
 have hlt:len < 2 ^ 48:=by
  cases v <;> simp only[z7g] at hlen
  case sl xs t=>split at hlen <;> simp at hlen;omega
  case ob s g off l=>split at hlen <;> simp at hlen;omega
  all_goals simp at hlen
 refine k6d (m:=q + 2) (wpIn_rangeFunc ?_)
 intro fn _
 obtain⟨rec,hrec⟩:∃ rec:LoopState→Option Code→Loop,rec=fun st pe=>{state:=st,pending:=pe,fn,tmps:=a.tmps,params:=ps,assign,body,defers:=w.heap.size}:=⟨_,rfl⟩
 obtain⟨W1,hW1⟩:∃ W1,(w.alloc (.deferred (some []))).alloc (.loop (rec .ready none))=W1:=⟨_,rfl⟩
 have hL1:W1.heap[w.heap.size + 1]? =some (.loop (rec .ready none)):=by
  rw[←hW1];have:=World.alloc_heap_new (w.alloc (.deferred (some []))) (.loop (rec .ready none));rwa [World.size_alloc] at this
 have hK1:W1.heap[w.heap.size]? =some (.deferred (some [])):=by
  rw[←hW1];exact (RowKit.Below.heap_alloc _ _ _ (by simp)).trans (World.alloc_heap_new w _)
 have hold1:∀ b,b < w.heap.size→W1.heap[b]? =w.heap[b]? :=fun b hb=>by
  rw[←hW1]
  exact (RowKit.Below.heap_alloc _ _ _ (by simp;omega)).trans (RowKit.Below.heap_alloc _ _ _ hb)
 have hran1:Ran base s.clk G I s.h w G I s.h W1:=by
  refine⟨hl.rel.world fun b x hx=> ?_,GLe.refl _,ILe.refl _,fun g i h1 h2=>by rw[h1] at h2;simp at h2,OwnLe.refl _ _ _, ?_,IFr.refl⟩
  ·rw[hold1 b (Array.getElem?_eq_some_iff.1 hx).1];exact hx
  ·refine⟨by rw[←hW1];rfl,by rw[←hW1];rfl,by rw[←hW1];rfl,by rw[←hW1];simp;omega,fun b hb _=>hold1 b hb⟩
 refine⟨w.heap.size + 1,[{target:= .collected w.heap.size,args:= #[]}],W1,{target:= .fn (.func k) #[.pointer (some ⟨bc,0,none⟩)],args:= #[.func (.yield (w.heap.size + 1)) #[] #[]]},W1,k,
  #[.func (.yield (w.heap.size + 1)) #[] #[], .pointer (some ⟨bc,0,none⟩)],W1, ?_, ?_,fun _ _=>trivial, ?_,fun h=>by simp[q7g,Fence.wide] at h, ?_⟩
 ·rw[←hW1,hrec];exact run_enterLoop_outer _ _ _ _ _
 ·simp only[resolve,hfv]
  simp[go_sem]
 ·simp[invoke,go_sem,hk]
 ·
  refine (hI q (w.heap.size + 1) bc len c A (fun i W=>∃ G' I' h' clk',q1t (fun s=>match E base a' s with
     | some (.norm,s')=>E base b' s'
     | r=>r) v s.ts p p' i (h',clk')=some m∧Ran base s.clk G I s.h w G' I' h' W∧Fresh G' clk'∧s.clk≤clk'∧s.h.length≤h'.length∧W.heap[w.heap.size + 1]? =some (.loop (rec .ready none))∧W.heap[w.heap.size]? =some (.deferred (some []))) W1 hlt ?_ ?_ ?_ ⟨G,I,s.h,s.clk,hr,hran1,hf,Nat.le_refl _,Nat.le_refl _,hL1,hK1⟩).mono ?_
  ·rintro i W ⟨G',I',h',clk',_,hran,_⟩
   exact hran.rel.imm _ _ _ (hran.ile _ _ _ hIb)
  ·rintro i W d ⟨G',I',h',clk',h1,hran,h3,h4,h5,h6,h7⟩
   exact⟨G',I',h',clk',h1,hran.drawn,h3,h4,h5,h6,h7⟩
  ·rintro i W hi ⟨G',I',h',clk',h1,hran,h3,h4,h5,h6,h7⟩
   simp only[q1t] at h1
   split at h1
   ·rename_i xv hxv
    obtain⟨bA,oA,vx,hA,hnc,hcell,hvx⟩:=k0h hran.rel (VR.mono hran.gle hran.ile hvy) hlen hi hxv
    refine⟨bA,oA,vx,hA,hnc,hcell, ?_⟩
    split at h1
    ·rename_i s2 hround
     have hasg:∃ s1,E base a' ⟨upd (upd s.ts p (.int .i64 i)) p' xv,h',clk'⟩=some (.norm,s1)∧E base b' s1=some (.norm,s2):=by
      split at hround
      ·rename_i s1 h8
       exact⟨s1,h8,hround⟩
      ·rename_i h8
       exact absurd hround (h8 s2)
     obtain⟨s1,hea,heb⟩:=hasg
     have hpsz:ps.size=2:=by
      rw[←Array.length_toList,hps];rfl
     have hy:=run_yield (P:=P) (args:= #[.int .i64 i,vx]) h6 (by rw[hrec];simp[hpsz])
     rw[hrec] at hy
     refine⟨fn,_,assign,body,hy,roundIn_of_wpIn (F:=q7g none) trivial ?_⟩
     have htm:TmpR G' I' (upd (upd s.ts p (.int .i64 i)) p' xv) ((a.tmps.setIfInBounds p (.int .i64 i)).setIfInBounds p' vx):=by
      have t0:=hl.tmps.mono hran.gle hran.ile
      have t1:=TmpR.put (a:=a) (dst:=some p) (v:= .int .i64 i) (cv:= .int .i64 i) t0 (by simp[VR]) (by have:=hl.size;simp;omega)
      exact TmpR.put (a:=⟨a.tmps.setIfInBounds p (.int .i64 i),a.defers⟩) (dst:=some p') t1 hvx (by have:=hl.size;simp;omega)
     have hlive:Live nt 0 G' I' ⟨upd (upd s.ts p (.int .i64 i)) p' xv,h',clk'⟩ {tmps:=(ps.zip #[.int .i64 i,vx]).foldl (fun t (p,v)=>t.setIfInBounds p v) a.tmps,defers:=[]} W:=by
      rw[v6y hps]
      exact⟨Nat.zero_le _,⟨fun d hd=>by simp at hd, .nil⟩,by have:=hl.size;simp;omega,htm,hran.rel⟩
     refine hE (some (w.heap.size + 1)) nt 0 mu al base n assign a' n1 _ .norm s1 ha (.inr hna) hea (Nat.le_trans hbase h5) G' I' W _ q _ hlive h3 fun a1 w1 G1 I1 k1 k2 k3 k4 k5=> ?_
     have hran1':Ran base s.clk G I s.h w G1 I1 s1.h w1:=hran.trans k2 (Nat.le_refl _) (by exact h4)
     have hL2:=k2.odd hran.rel h6 q4y
     have hK2:=k2.odd hran.rel h7 q1y
     refine⟨_,run_beginRound hL2 (by rw[hrec]), ?_⟩
     have hran2:=hran1'.putObj (o':= .loop {rec .ready none with state:= .busy}) hL2 q4y (by omega)
     have hL3:(w1.putObj (w.heap.size + 1) (.loop {rec .ready none with state:= .busy})).heap[w.heap.size + 1]? =some (.loop {rec .ready none with state:= .busy}):=World.putObj_heap_same (Array.getElem?_eq_some_iff.1 hL2).1
     have hK3:(w1.putObj (w.heap.size + 1) (.loop {rec .ready none with state:= .busy})).heap[w.heap.size]? =some (.deferred (some [])):=(World.putObj_heap_other (by omega)).trans hK2
     have hlive2:Live nt 0 G1 I1 s1 a1 (w1.putObj (w.heap.size + 1) (.loop {rec .ready none with state:= .busy})):=by
      refine⟨Nat.zero_le _,⟨fun d hd=> ?_,k1.dfr.2⟩,k1.size,k1.tmps,hran2.rel⟩
      obtain⟨r,g1,g2,g3⟩:=k1.dfr.1 d hd
      refine⟨r,g1,g2, ?_⟩
      rw[World.putObj_heap_other]
      ·exact g3
      ·intro e
       subst e
       rw[hL2] at g3
       simp at g3
     refine hE (some (w.heap.size + 1)) nt 0 mu al base n1 body b' n2 s1 .norm s2 hb (.inr hnb) heb (Nat.le_trans hbase (Nat.le_trans h5 k5)) G1 I1 _ a1 q _ hlive2 k3 fun a2 w2 G2 I2 m1 m2 m3 m4 m5=> ?_
     have hran3:=hran2.trans m2 (Nat.le_refl _) (Nat.le_trans h4 k4)
     have hL4:=m2.odd hran2.rel hL3 q4y
     have hK4:=m2.odd hran2.rel hK3 q1y
     refine⟨_,_,run_endRound none hL4,rfl,G2,I2,s2.h,s2.clk,h1,hran3.putObj hL4 q4y (by omega),m3,Nat.le_trans h4 (Nat.le_trans k4 m4),Nat.le_trans h5 (Nat.le_trans k5 m5), ?_,(World.putObj_heap_other (by omega)).trans hK4⟩
     rw[World.putObj_heap_same (Array.getElem?_eq_some_iff.1 hL4).1,hrec]
     rfl
    ·simp at h1
   ·simp at h1
  ·rintro e W ⟨⟨vv,rfl⟩,G',I',h',clk',h1,hran,h3,h4,h5,h6,h7⟩
   simp only[q1t,Option.some.injEq] at h1
   subst h1
   refine⟨_,_,run_endLoop h6 (by rw[hrec];simp), ?_⟩
   rw[hrec]
   simp only
   have hranE:=hran.putObj (o':= .loop {rec .ready none with state:= .exhausted}) h6 q4y (by omega)
   rw[hrec] at hranE
   refine hQ _ _ G' I' ⟨?_,⟨fun d hd=> ?_, ?_⟩,hl.size,hl.tmps.mono hran.gle hran.ile,hranE.rel⟩ hranE h3 h4 h5
   ·rw[World.putObj_size]
    exact Nat.le_trans hl.bnd hran.fr.size
   ·rcases List.mem_cons.1 hd with rfl | hd
    ·exact⟨w.heap.size,rfl,hl.bnd,(World.putObj_heap_other (by omega)).trans h7⟩
    ·obtain⟨r,g1,g2,g3⟩:=hl.dfr.1 d hd
     have hlt2:=(Array.getElem?_eq_some_iff.1 g3).1
     refine⟨r,g1,g2,(World.putObj_heap_other (by omega)).trans ?_⟩
     exact hran.odd hl.rel g3 q1y
   ·refine List.pairwise_cons.2 ⟨fun d hd=> ?_,hl.dfr.2⟩
    obtain⟨r,g1,g2,g3⟩:=hl.dfr.1 d hd
    have hlt2:=(Array.getElem?_eq_some_iff.1 g3).1
    rw[g1]
    simp only[ne_eq,Target.collected.injEq]
    omega
end
section
variable {P:Program} {G:Ghost} {I:Imm} {h:List AObj} {w:World}
def q0y (P:Program) (Γ:AProg):Prop:=∀ k,Γ.iters.contains k=true→k0f P k∧∀ args w,(callFunc k args).run P w= .ok (.enter k args) w
theorem Came.trans {base nt B lo:Nat} {s s1 s':St} {G1:Ghost} {I1:Imm} {w1:World} {K:Act→World→Prop} (hQ:Came base nt B lo G I s w s' K) (hran:Ran base lo G I s.h w G1 I1 s1.h w1) (hc:s.clk≤s1.clk) (hlo:lo≤s.clk) (hl:s.h.length≤s1.h.length):
  Came base nt B s1.clk G1 I1 s1 w1 s' K:=fun a' w' G' I' h1 h2 h3 h4 h5=>
 hQ a' w' G' I' h1 (hran.trans h2 (Nat.le_refl _) (by omega)) h3 (by omega) (by omega)
theorem v6z {Γ:AProg} {back:Nat→Option Nat} {nt:Nat} {mu:Nat→Nat→Bool} {al:Nat→Nat} {r:Option Nat} {q B base n n' k:Nat} {body:Code} {b:ACode} (hE:∀ j,j < k→x2q P back (z4l Γ j)) (hb:z8t P back nt mu al n body=some (b,n')) (hno:r=none∨b.noRange=true):
  ∀ j,j≤k→∀ (s:St) (e:AEx) (s':St),z4l Γ j base (.loop b) s=some (e,s')→base≤s.h.length→∀ (G:Ghost) (I:Imm) (w:World) (a:Act) (Q:Exit→Act→World→Prop),Live nt B G I s a w→Fresh G s.clk→
    Came base nt B s.clk G I s w s' (Q (j3m e))→Code.roundsIn (q7g r) q P body Q j a w:=by
 intro j
 induction j with
 | zero=>intro _ s e s' hx;simp[z4l] at hx
 | succ j ih=>
   intro hj s e s' hx hbase G I w a Q hl hf hQ
   rw[roundsIn_succ]
   simp only[z4l] at hx
   split at hx
   ·rename_i s1 h1
    refine hE j (by omega) r nt B mu al base n body b n' s .norm s1 hb hno h1 hbase G I w a q _ hl hf fun a1 w1 G1 I1 g1 g2 g3 g4 g5=> ?_
    exact ih (by omega) s1 e s' hx (by omega) G1 I1 w1 a1 Q g1 g3 (hQ.trans g2 g4 (Nat.le_refl _) g5)
   ·rename_i r' hr
    refine hE j (by omega) r nt B mu al base n body b n' s e s' hb hno hx hbase G I w a q _ hl hf fun a1 w1 G1 I1 g1 g2 g3 g4 g5=> ?_
    have hne:e≠ .norm:=fun he=>by
     subst he
     exact hr s' hx
    cases e with
    | norm=>exact absurd rfl hne
    | exit id=>exact hQ a1 w1 G1 I1 g1 g2 g3 g4 g5
    | ret=>exact hQ a1 w1 G1 I1 g1 g2 g3 g4 g5
theorem v7a {Γ:AProg} {back:Nat→Option Nat} {k:Nat} (hE:∀ j,j < k→x2q P back (z4l Γ j)) (hC:∀ j,j < k→q4x P (z0q (z4l Γ j) Γ)) (hB:q1p P back) (hD:x8c P back) (hR:q0y P Γ):x2q P back (z4l Γ k):=by
 intro r nt B mu al base n code c n' s e s' hc hno hx hbase G I w a q Q hl hf hQ
 cases k with
 | zero=>simp[z4l] at hx
 | succ k=>
   cases code with
   | skip=>
     simp only[z8t,Option.some.injEq,Prod.mk.injEq] at hc
     obtain⟨rfl,_⟩:=hc
     simp only[z4l,Option.some.injEq,Prod.mk.injEq] at hx
     obtain⟨rfl,rfl⟩:=hx
     exact wpIn_skip (hQ a w G I hl (Ran.refl hl.rel) hf (Nat.le_refl _) (Nat.le_refl _))
   | ret=>
     simp only[z8t,Option.some.injEq,Prod.mk.injEq] at hc
     obtain⟨rfl,_⟩:=hc
     simp only[z4l,Option.some.injEq,Prod.mk.injEq] at hx
     obtain⟨rfl,rfl⟩:=hx
     exact wpIn_ret (hQ a w G I hl (Ran.refl hl.rel) hf (Nat.le_refl _) (Nat.le_refl _))
   | exit id=>
     simp only[z8t,Option.some.injEq,Prod.mk.injEq] at hc
     obtain⟨rfl,_⟩:=hc
     simp only[z4l,Option.some.injEq,Prod.mk.injEq] at hx
     obtain⟨rfl,rfl⟩:=hx
     exact wpIn_exit (hQ a w G I hl (Ran.refl hl.rel) hf (Nat.le_refl _) (Nat.le_refl _))
   | region id ops draw=>
     simp only[z8t] at hc
     split at hc
     ·rename_i asx n1 hops
      have hm:=MadeAll.of hops
      have hCk:=hC k (by omega)
      split at hc
      ·rename_i hd
       subst hd
       split at hc
       ·rename_i hok
        simp only[Option.some.injEq,Prod.mk.injEq] at hc
        obtain⟨rfl,_⟩:=hc
        simp only[z4l,Option.map_eq_some_iff,Prod.mk.injEq] at hx
        obtain⟨s1,hr,rfl,rfl⟩:=hx
        simp only[Bool.and_eq_true] at hok
        exact hD Γ k nt B base _ _ id ops asx hCk hB hm hok.1.1 hok.1.2 hok.2 s s1 G I w a hr hl hf hbase r q Q hQ
       ·simp only[Option.some.injEq,Prod.mk.injEq] at hc
        obtain⟨rfl,_⟩:=hc
        simp[z4l] at hx
      ·rename_i hd
       have hd:draw=false:=by simpa using hd
       subst hd
       simp only[Option.some.injEq,Prod.mk.injEq] at hc
       obtain⟨rfl,_⟩:=hc
       simp only[z4l,Option.map_eq_some_iff,Prod.mk.injEq] at hx
       obtain⟨s1,hr,rfl,rfl⟩:=hx
       exact k0g hCk hB hm hr hl hf hbase hQ
     ·simp at hc
   | seq x y=>
     simp only[z8t] at hc
     split at hc
     ·rename_i x' n1 hx1
      simp only[Option.map_eq_some_iff,Prod.mk.injEq] at hc
      obtain⟨⟨y',n2⟩,hy1,rfl,_⟩:=hc
      simp only[z4l] at hx
      refine wpIn_seq ?_
      split at hx
      ·rename_i s1 h1
       refine hE k (by omega) r nt B mu al base n x x' n1 s .norm s1 hx1 (hno.imp id fun h=>(Bool.and_eq_true_iff.1 h).1) h1 hbase G I w a q _ hl hf fun a1 w1 G1 I1 g1 g2 g3 g4 g5=> ?_
       exact hE k (by omega) r nt B mu al base n1 y y' n2 s1 e s' hy1 (hno.imp id fun h=>(Bool.and_eq_true_iff.1 h).2) hx (by omega) G1 I1 w1 a1 q Q g1 g3 (hQ.trans g2 g4 (Nat.le_refl _) g5)
      ·rename_i hr
       refine hE k (by omega) r nt B mu al base n x x' n1 s e s' hx1 (hno.imp id fun h=>(Bool.and_eq_true_iff.1 h).1) hx hbase G I w a q _ hl hf fun a1 w1 G1 I1 g1 g2 g3 g4 g5=> ?_
       cases e with
       | norm=>exact absurd hx (hr s')
       | exit id=>exact hQ a1 w1 G1 I1 g1 g2 g3 g4 g5
       | ret=>exact hQ a1 w1 G1 I1 g1 g2 g3 g4 g5
     ·simp at hc
   | cond qq x y=>
     simp only[z8t] at hc
     split at hc
     ·rename_i q' x' n1 hq' hx1
      simp only[Option.map_eq_some_iff,Prod.mk.injEq] at hc
      obtain⟨⟨y',n2⟩,hy1,rfl,_⟩:=hc
      simp only[z4l] at hx
      split at hx
      ·rename_i t heq
       have hv:=z1i hl.tmps.eval hq'
       rw[heq] at hv
       simp only[VR] at hv
       refine wpIn_cond hv ?_
       cases t with
       | true=>exact hE k (by omega) r nt B mu al base n x x' n1 s e s' hx1 (hno.imp id fun h=>(Bool.and_eq_true_iff.1 h).1) (by simpa using hx) hbase G I w a q Q hl hf hQ
       | false=>exact hE k (by omega) r nt B mu al base n1 y y' n2 s e s' hy1 (hno.imp id fun h=>(Bool.and_eq_true_iff.1 h).2) (by simpa using hx) hbase G I w a q Q hl hf hQ
      ·simp at hx
     ·simp at hc
   | block id x=>
     simp only[z8t,Option.map_eq_some_iff,Prod.mk.injEq] at hc
     obtain⟨⟨x',n1⟩,hx1,rfl,_⟩:=hc
     simp only[z4l] at hx
     refine wpIn_block ?_
     split at hx
     ·rename_i i s1 h1
      refine hE k (by omega) r nt B mu al base n x x' n1 s (.exit i) s1 hx1 hno h1 hbase G I w a q _ hl hf fun a1 w1 G1 I1 g1 g2 g3 g4 g5=> ?_
      split at hx
      ·rename_i hi
       simp only[Option.some.injEq,Prod.mk.injEq] at hx
       obtain⟨rfl,rfl⟩:=hx
       subst hi
       simp only[j3m,Exit.inBlock,if_true]
       exact hQ a1 w1 G1 I1 g1 g2 g3 g4 g5
      ·rename_i hi
       simp only[Option.some.injEq,Prod.mk.injEq] at hx
       obtain⟨rfl,rfl⟩:=hx
       simp only[j3m,Exit.inBlock,if_neg hi]
       exact hQ a1 w1 G1 I1 g1 g2 g3 g4 g5
     ·rename_i hr
      refine hE k (by omega) r nt B mu al base n x x' n1 s e s' hx1 hno hx hbase G I w a q _ hl hf fun a1 w1 G1 I1 g1 g2 g3 g4 g5=> ?_
      cases e with
      | norm=>exact hQ a1 w1 G1 I1 g1 g2 g3 g4 g5
      | exit i=>exact absurd hx (hr i s')
      | ret=>exact hQ a1 w1 G1 I1 g1 g2 g3 g4 g5
   | loop x=>
     simp only[z8t,Option.map_eq_some_iff,Prod.mk.injEq] at hc
     obtain⟨⟨x',n1⟩,hx1,rfl,_⟩:=hc
     exact wpIn_loop_rounds (k + 1) (v6z hE hx1 hno (k + 1) (Nat.le_refl _) s e s' hx hbase G I w a Q hl hf hQ)
   | rangeFunc f ps x y=>
     simp only[z8t] at hc
     split at hc
     ·rename_i x1 p p' a1 n1 hf1 hps ha
      simp only[Option.map_eq_some_iff,Prod.mk.injEq] at hc
      obtain⟨⟨y',n2⟩,hy1,rfl,_⟩:=hc
      by_cases hnr:(a1.noRange && y'.noRange && (decide (p < nt) && decide (p' < nt)))=true
      case neg=>
       rw[if_neg hnr] at hx
       simp[z4l] at hx
      rw[if_pos hnr] at hx hno
      obtain rfl:r=none:=hno.resolve_right (by simp[ACode.noRange])
      simp only[Bool.and_eq_true,decide_eq_true_eq] at hnr
      simp only[z4l] at hx
      split at hx
      ·rename_i kf v heq
       split at hx
       ·rename_i len hlen
        split at hx
        ·rename_i hit
         simp only[Option.map_eq_some_iff,Prod.mk.injEq] at hx
         obtain⟨m,hr,rfl,rfl⟩:=hx
         obtain⟨hI,hk⟩:=hR kf hit
         exact k6f (hE k (by omega)) hf1 hps ha hy1 hnr.1.1 hnr.1.2 hnr.2.1 hnr.2.2 heq hlen hI hk hr hbase hl hf hQ
        ·simp at hx
       ·simp at hx
      ·simp at hx
     ·simp at hc
   | _=>
     simp only[z8t,Option.some.injEq,Prod.mk.injEq] at hc
     obtain⟨rfl,_⟩:=hc
     simp[z4l] at hx
end
section
variable {P:Program} {G:Ghost} {I:Imm} {h:List AObj} {w:World}
def ExtPost (G:Ghost) (I:Imm) (w:World) (v:AV) (cv:Value) (w':World):Prop:=
 ∃ I',ILe I I'∧VR G I' v cv∧(∀ (b:Nat) (y:Obj),w.heap[b]? =some y→w'.heap[b]? =some y)∧w'.os=w.os∧w'.tape=w.tape∧w'.output=w.output∧w.heap.size≤w'.heap.size∧
     ∀ b o v,I' b o=some v→I b o=some v∨(w.heap.size≤b∧w'.cell? ⟨b,o,none⟩=some v)
theorem ExtPost.ran {v:AV} {cv:Value} {w':World} {base clk:Nat} (rel:Rel G I h w) (he:ExtPost G I w v cv w'):∃ I',VR G I' v cv∧Ran base clk G I h w G I' h w':=by
 obtain⟨I',hI,hv,hold,h1,h2,h3,h4,h5⟩:=he
 have hother:∀ b o v,b < w.heap.size→I' b o=some v→I b o=some v:=fun b o v hb hv=>(h5 b o v hv).resolve_right fun hc=>by omega
 have hrel:Rel G I' h w':=by
  refine⟨fun b o v hv=> ?_,fun i o ho=> ?_,rel.inj⟩
  ·rcases h5 b o v hv with g1 | ⟨_,g1⟩
   ·exact z5t (rel.imm b o v g1) (hold _)
   ·exact g1
  ·have hob:=rel.obj i o ho
   refine hob.shift (GLe.refl _) hI (fun b hb=> ?_) fun b hb o v hv=>hother b o v (q0a hob hb) hv
   obtain⟨y,hy⟩:=q1w hob hb
   rw[hy,hold b y hy]
 have hfr:Fr G h w w':=⟨h1,h2,h3,h4,fun b hb _=>by rw[hold b w.heap[b] (Array.getElem?_eq_getElem hb),Array.getElem?_eq_getElem hb]⟩
 exact⟨I',hv,hrel,GLe.refl _,hI,fun g i h1 h2=>by rw[h1] at h2;simp at h2,OwnLe.refl _ _ _,hfr,fun b hb _ o v hv=>hother b o v hb hv⟩
structure ProgOk (P:Program) (back:Nat→Option Nat) (Γ:AProg):Prop where
 fn:∀ f af,Γ.fn f=some af→∃ hint,cFun P back hint (real f)=some af
 ext:∀ f sem,Γ.ext f=some sem→∀ asx v,sem asx=some v→∀ G I w (cargs:Array Value),VRL G I asx cargs.toList→(∀ b o v,I b o=some v→w.cell? ⟨b,o,none⟩=some v)→(∃ clk,Fresh G clk)→CallRes P (real f) cargs w (ExtPost G I w v)
theorem k6g {asx:List AV} {cargs:Array Value} {n:Nat} (ha:VRL G I asx cargs.toList):TmpR G I (z9z asx) (cargs++Array.replicate n undef):=by
 obtain⟨h1,h2⟩:=z9v.1 ha
 intro t
 simp only[z9z]
 by_cases ht:t < asx.length
 ·have hc:t < cargs.size:=by
   rw[h1] at ht
   simpa using ht
  have hv:=h2 t asx[t] cargs[t] (List.getElem?_eq_getElem ht) (by simp[hc])
  have e1:asx.getD t AV.undef=asx[t]:=by simp[List.getD,List.getElem?_eq_getElem ht]
  have e2:(cargs++Array.replicate n undef).getD t undef=cargs[t]:=by
   rw[Array.getD_eq_getD_getElem?,Array.getElem?_append_left hc,Array.getElem?_eq_getElem hc]
   rfl
  rw[e1,e2]
  exact hv
 ·have e1:asx.getD t AV.undef= .undef:=by simp[List.getD,List.getElem?_eq_none (Nat.le_of_not_lt ht)]
  rw[e1]
  simp[VR]
def k6h (tmps:Array Value):ResultVar→Sem Value
 | .tmp t=>pure (tmps.getD t undef)
 | .cell a t=>do loadVar t (←asAddr (tmps.getD a undef))
theorem j7a (fn:Func) (tmps:Array Value):results fn tmps=(do
  let vs←fn.results.mapM (k6h tmps)
  pure (if h:vs.size=1 then vs[0] else .tuple vs)):=by
 unfold results
 congr 1
theorem q3s {s:St} {tmps:Array Value} (ht:TmpR G I s.ts tmps) (rel:Rel G I s.h w):∀ {rvs:List ResultVar} {rs:List ARes} {vs:List AV},v2a P rvs=some rs→z1z s.h s.ts rs=some vs→
  ∃ cvs,(rvs.mapM (k6h tmps)).run P w= .ok cvs w∧VRL G I vs cvs
 | [],rs,vs,hc,hr=>by
   simp[v2a] at hc
   subst hc
   simp[z1z] at hr
   subst hr
   exact⟨[],by simp,by simp[VRL]⟩
 | .tmp t::rvs,rs,vs,hc,hr=>by
   simp only[v2a,Option.map_eq_some_iff] at hc
   obtain⟨rs',hc,rfl⟩:=hc
   simp only[z1z,Option.map_eq_some_iff] at hr
   obtain⟨vs',hr,rfl⟩:=hr
   obtain⟨cvs,h1,h2⟩:=q3s ht rel hc hr
   refine⟨tmps.getD t undef::cvs, ?_,by simp only[VRL];exact⟨_,_,rfl,ht t,h2⟩⟩
   rw[List.mapM_cons]
   simp only[k6h,Sem.run_bind,Sem.run_pure,Result.andThen,h1]
 | .cell a t::rvs,rs,vs,hc,hr=>by
   simp only[v2a] at hc
   split at hc
   ·rename_i sz rs' hsz hc'
    simp only[Option.some.injEq] at hc
    subst hc
    simp only[z1z] at hr
    split at hr
    ·rename_i sl g i o heq
     split at hr
     ·rename_i es row grow fz hb
      split at hr
      ·rename_i v hv
       simp only[Option.map_eq_some_iff] at hr
       obtain⟨vs',hr,rfl⟩:=hr
       obtain⟨cvs,h1,h2⟩:=q3s ht rel hc' hr
       cases he:es[i]? with
       | none=>simp[he] at hv
       | some e=>
         simp only[he,Option.bind_some] at hv
         have hp:=ht a
         rw[heq] at hp
         simp only[VR] at hp
         obtain⟨gi,hgi,_,hp⟩:=hp
         obtain⟨gi',cs,ty,hgi',_,hw,_,_,_,_,_,hE,_⟩:=rel.obj sl _ (z9l hb)
         obtain rfl:gi=gi':=by rw[hgi] at hgi';simpa using hgi'
         obtain⟨cv,h3,h4⟩:=q0u (P:=P) (x2i hw hE he) hsz hv
         refine⟨cv::cvs, ?_,by simp only[VRL];exact⟨_,_,rfl,h4,h2⟩⟩
         rw[List.mapM_cons]
         simp only[k6h,Sem.run_bind,Sem.run_pure,Result.andThen,h1,hp,asAddr,h3]
      ·simp at hr
     ·simp at hr
    ·simp at hr
   ·simp at hc
theorem j7b {fn:Func} {s:St} {tmps:Array Value} {rs:List ARes} {vs:List AV} (ht:TmpR G I s.ts tmps) (rel:Rel G I s.h w) (hc:v2a P fn.results.toList=some rs) (hr:z1z s.h s.ts rs=some vs):
  ∃ cv,(results fn tmps).run P w= .ok cv w∧VR G I (z1l vs) cv:=by
 obtain⟨cvs,h1,h2⟩:=q3s (P:=P) ht rel hc hr
 have hl:=(z9v.1 h2).1
 rw[j7a,Array.mapM_eq_mapM_toList,map_eq_pure_bind]
 refine⟨if h:cvs.toArray.size=1 then cvs.toArray[0] else .tuple cvs.toArray, ?_, ?_⟩
 ·simp only[Sem.run_bind,h1,Result.andThen,Sem.run_pure]
 ·match vs,cvs,h2 with
  | [],cvs,h2=>
    simp only[VRL] at h2
    subst h2
    simp[z1l,VR,VRL]
  | [v],cvs,h2=>
    simp only[VRL] at h2
    obtain⟨u,ws,rfl,h4,rfl⟩:=h2
    simpa [z1l] using h4
  | v::v'::vs,cvs,h2=>
    have h2':=h2
    simp only[VRL] at h2
    obtain⟨u,ws,rfl,h4,u',ws',rfl,h5,h6⟩:=h2
    simp[z1l,VR]
    simpa using h2'
theorem z6g {f:Nat} {fn:Func} {c:Code} {cargs:Array Value} (hf:P.funcs[f]? =some fn) (hb:fn.body=some c) (hn:fn.name≠ "runtime.NumGoroutine"):(callFunc f cargs).run P w= .ok (.enter f cargs) w:=by
 unfold callFunc
 simp[hf,hb,hn]
structure Shut (B:Nat) (w w':World):Prop where
 os:w'.os=w.os
 tape:w'.tape=w.tape
 output:w'.output=w.output
 size:w'.heap.size=w.heap.size
 kept:∀ b,(b < B∨∀ x,w.heap[b]? ≠some (.deferred x))→w'.heap[b]? =w.heap[b]?
theorem Shut.refl (B:Nat) (w:World):Shut B w w:=⟨rfl,rfl,rfl,rfl,fun _ _=>rfl⟩
theorem Shut.rel {B:Nat} {w':World} (hs:Shut B w w') (r:Rel G I h w):Rel G I h w':=by
 refine⟨fun b o v hv=> ?_,fun i o ho=> ?_,r.inj⟩
 ·have hc:=r.imm b o v hv
  refine z5t hc fun x hx=> ?_
  rw[hs.kept b (.inr fun y hy=> ?_)]
  ·exact hx
  ·unfold World.cell? at hc
   simp only at hx hc
   rw[hx] at hy
   simp only[Option.some.injEq] at hy
   subst hy
   rw[hx] at hc
   simp at hc
 ·exact (r.obj i o ho).world fun b hb=>hs.kept b (.inr (x8b (r.obj i o ho) hb))
theorem Shut.ran {base clk:Nat} {G':Ghost} {I':Imm} {h':List AObj} {w1 w2:World} (hs:Shut w.heap.size w1 w2) (r:Ran base clk G I h w G' I' h' w1):Ran base clk G I h w G' I' h' w2:=
 ⟨hs.rel r.rel,r.gle,r.ile,r.slots,r.own,⟨hs.os.trans r.fr.os,hs.tape.trans r.fr.tape,hs.output.trans r.fr.output,by rw[hs.size];exact r.fr.size,fun b hb hn=>by rw[hs.kept b (.inl hb)];exact r.fr.kept b hb hn⟩,r.ifr⟩
theorem q3t {B n:Nat} {fn:Func} {tmps:Array Value} {R:Ending→World→Prop}:∀ {ds:List Deferred} {w:World},Marks B ds w→(∀ w',Shut B w w'→∃ v,(results fn tmps).run P w'= .ok v w'∧R (.returned v) w')→LeavesInM (q7g none) n P fn tmps R ds .returning w
 | [],w,_,hR=>by
   simp only[LeavesInM,LeavesIn]
   exact hR w (Shut.refl B w)
 | d::ds,w,hm,hR=>by
   obtain⟨r,h1,h0,h2⟩:=hm.1 d List.mem_cons_self
   have hlt:r < w.heap.size:=(Array.getElem?_eq_some_iff.1 h2).1
   refine⟨by simp, .inl ⟨r,_,h1,run_takeDeferred h2,q3t (B:=B) ⟨fun d' hd'=> ?_,(List.pairwise_cons.1 hm.2).2⟩ fun w' hs=>hR w' ?_⟩⟩
   ·obtain⟨r',g1,g0,g2⟩:=hm.1 d' (List.mem_cons_of_mem _ hd')
    refine⟨r',g1,g0, ?_⟩
    have hne:r'≠r:=fun e=>(List.pairwise_cons.1 hm.2).1 d' hd' (by rw[h1,g1,e])
    exact (World.putObj_heap_other hne).trans g2
   ·refine⟨hs.os,hs.tape,hs.output,hs.size.trans (by simp[World.putObj]),fun b hb=> ?_⟩
    have hne:b≠r:=fun e=>by
     subst e
     rcases hb with hb | hb
     ·omega
     ·exact hb _ h2
    have hk:(w.putObj r (.deferred none)).heap[b]? =w.heap[b]? :=World.putObj_heap_other hne
    rw[hs.kept b (hb.imp id fun hb x=>by rw[hk];exact hb x),hk]
end
section
variable {P:Program} {G:Ghost} {I:Imm} {h:List AObj} {w:World}
mutual
theorem j3n:∀ {v:AV},v.flat=true→v.ids=[]
 | .undef,_=>rfl
 | .int ..,_=>rfl
 | .bool _,_=>rfl
 | .str _,_=>rfl
 | .agg cs,hf=>by
   simp only[AV.ids]
   exact q9h (by simpa only[AV.flat] using hf)
 | .tup cs,hf=>by
   simp only[AV.ids]
   exact q9h (by simpa only[AV.flat] using hf)
 | .sl _ _,hf=>by simp[AV.flat] at hf
 | .ob ..,hf=>by simp[AV.flat] at hf
 | .ptr ..,hf=>by simp[AV.flat] at hf
 | .iptr _ _,hf=>by simp[AV.flat] at hf
 | .nilptr,hf=>by simp[AV.flat] at hf
 | .mp ..,hf=>by simp[AV.flat] at hf
 | .nilmap,hf=>by simp[AV.flat] at hf
 | .fn _ _,hf=>by simp[AV.flat] at hf
 | .nilfn,hf=>by simp[AV.flat] at hf
 | .nilif,hf=>by simp[AV.flat] at hf
 | .bwd _ _,hf=>by simp[AV.flat] at hf
theorem q9h:∀ {vs:List AV},j0e vs=true→idsL vs=[]
 | [],_=>rfl
 | v::vs,hf=>by
   simp only[j0e,Bool.and_eq_true] at hf
   simp only[idsL,j3n hf.1,q9h hf.2,List.append_nil]
end
theorem q4z:∀ {h h':List AObj} {k:Nat},z0r [] k h h'=h
 | [],[],_=>rfl
 | [],_::_,_=>rfl
 | o::h,[],_=>rfl
 | o::h,o'::h',k=>by simp[z0r,q4z]
theorem k6i {base clk:Nat} {I1:Imm} {h1:List AObj} (rel1:Rel G I1 h1 w) (hI:ILe I I1) (hN:NoNew G h I I1) (ho:∀ (i:Nat) o b,h1[i]? =some o→own G o=some b→∃ (j:Nat) (x:AObj),h[j]? =some x∧own G x=some b):Ran base clk G I h w G I1 h1 w:=
 ⟨rel1,GLe.refl _,hI,fun g i h1 h2=>by rw[h1] at h2;simp at h2,fun i o b hi hb=> .inl (ho i o b hi hb),Fr.refl _ _ _,hN.ifr⟩
theorem k0i {Γ:AProg} {back:Nat→Option Nat} {k:Nat} (hE:x2q P back (z4l Γ k)) (hΓ:ProgOk P back Γ):q4x P (z0q (z4l Γ k) Γ):=by
 intro f args h clk v h' clk' hc G I w cargs hargs rel hfresh
 unfold z0q at hc
 split at hc
 ·rename_i sem hsem
  split at hc
  ·rename_i asx hpass
   split at hc
   ·rename_i hlent
    simp only[Option.map_eq_some_iff,Prod.mk.injEq] at hc
    obtain⟨v0,hv0,rfl,rfl,rfl⟩:=hc
    obtain⟨I1,hI1,rel1,hvs,hN⟩:=q0x hpass hargs (Frozen.refl h) rel
    have hl:z0p [] 0 args=[]:=by simpa using hlent
    rw[hl] at rel1
    simp only[freezeAll] at rel1
    intro o a next Q hn
    refine hΓ.ext f sem hsem asx v0 hv0 G I1 w cargs hvs rel1.imm ⟨clk,hfresh⟩ o a next Q fun cv w' hp=>hn cv w' ?_
    obtain⟨I',hv,hran⟩:=hp.ran (base:=h.length) (clk:=clk) rel1
    exact⟨G,I',hv,(k6i rel1 hI1 hN fun i o b hi hb=>⟨i,o,hi,hb⟩).trans hran (Nat.le_refl _) (Nat.le_refl _),hfresh,Nat.le_refl _,Nat.le_refl _⟩
   ·simp at hc
  ·simp at hc
 ·split at hc
  ·simp at hc
  ·rename_i af haf
   split at hc
   ·simp at hc
   ·rename_i asx hpass
    obtain⟨hint,hcf⟩:=hΓ.fn f af haf
    unfold cFun at hcf
    split at hcf
    ·rename_i fn hfn
     split at hcf
     ·rename_i c hbody
      split at hcf
      ·rename_i c' n' rs hcode hres
       split at hcf
       ·simp at hcf
       ·rename_i hname
        simp only[Option.some.injEq] at hcf
        subst hcf
        simp only at hc
        obtain⟨I1,hI1,rel1,hvs,hN⟩:=q0x hpass hargs (Frozen.refl h) rel
        have hfrz:=z2j h (z0p hint.byref 0 args)
        generalize freezeAll h (z0p hint.byref 0 args)=hf at *
        generalize reach h (h.length + 1) [] (idsL asx)=T at *
        split at hc
        ·simp at hc
        ·simp at hc
        ·rename_i e s hnoexit hx
         split at hc
         ·simp at hc
         ·rename_i vs hvres
          split at hc
          ·simp at hc
          ·rename_i v0 hconv
           intro o a next Q hn
           rw[z6g hfn hbody hname,Oper.upon_enter]
           refine Calls.mono (R:=fun e w'=>∃ cv,e= .returned cv∧q8d G I h w clk v h' clk' cv w') ?_ (fun e w' he=>by
             obtain⟨cv,rfl,hp⟩:=he
             exact hn cv w' hp)
           refine j0w (r:=none) (n:=0) (callsIn_of_wp_marks hfn hbody trivial ?_ rfl)
           have hlive:Live fn.ntmps w.heap.size G I1 ⟨z9z asx,maskFrom T 0 hf++List.replicate n' .dead,clk⟩ {tmps:=cargs++Array.replicate (fn.ntmps - cargs.size) undef,defers:=[]} w:=
             ⟨Nat.le_refl _,⟨fun d hd=>by simp at hd, .nil⟩,by simp;omega,k6g hvs,k6c rel1⟩
           refine hE none fn.ntmps w.heap.size _ _ h.length 0 c c' n' ⟨z9z asx,maskFrom T 0 hf++List.replicate n' .dead,clk⟩ e s hcode (.inl rfl) hx (by simp[z8w,hfrz.1]) G I1 w _ 0 _ hlive hfresh fun a' w1 G' I' k1 k2 g3 g4 g5=> ?_
           have hfin:∀ w',Shut w.heap.size w1 w'→∃ cv,(results fn a'.tmps).run P w'= .ok cv w'∧∃ cv',Ending.returned cv=Ending.returned cv'∧q8d G I h w clk v h' clk' cv' w':=by
            intro w' hshut
            have g2:=hshut.ran k2
            obtain⟨cv,hrun,hcv⟩:=j7b (P:=P) k1.tmps g2.rel hres hvres
            have hpost:q8d G I h w clk v h' clk' cv w':=by
              have hlen:h.length≤s.h.length:=by
               have:(maskFrom T 0 hf++List.replicate n' AObj.dead).length≤s.h.length:=g5
               simp only[List.length_append,z8w,hfrz.1] at this
               omega
              obtain⟨I2,hI2,rel2,hv2,hN2,hfrz2⟩:∃ I2,ILe I' I2∧Rel G' I2 (if hint.owned=true then s.h else freezeAll s.h (z1l vs).obs) w'∧VR G' I2 v0 cv∧NoNew G' s.h I' I2∧Frozen s.h (if hint.owned=true then s.h else freezeAll s.h (z1l vs).obs):=by
               by_cases ho:hint.owned=true
               ·rw[if_pos ho] at hconv⊢
                simp only[Option.some.injEq] at hconv
                subst hconv
                exact⟨I',ILe.refl _,g2.rel,hcv,NoNew.refl,Frozen.refl _⟩
               ·rw[if_neg ho] at hconv⊢
                obtain⟨I2,a1,a2,a3,a4⟩:=q8s hconv hcv (Frozen.refl _) g2.rel
                exact⟨I2,a1,a2,a3,a4,z2j _ _⟩
              generalize (if hint.owned=true then s.h else freezeAll s.h (z1l vs).obs)=hr at *
              have left:Left T n' clk G I h w I1 hf G' I' s.h I2 hr w':=⟨hfrz,rel1,hI1,hN,g2,hlen,hfrz2,rel2,hI2,hN2⟩
              have hclk:clk≤s.clk:=g4
              by_cases hflat:(v0.flat && T.isEmpty)=true
              ·rw[if_pos hflat] at hc
               simp only[Bool.and_eq_true,List.isEmpty_iff] at hflat
               obtain⟨hfl,rfl⟩:=hflat
               rw[q4z,j3n hfl] at hc
               simp only[List.map_nil,List.flatten_nil,List.append_nil,List.all_nil,if_true,Option.some.injEq,Prod.mk.injEq] at hc
               obtain⟨rfl,rfl,rfl⟩:=hc
               have hkeep:∀ b,b < w.heap.size→w'.heap[b]? =w.heap[b]? :=fun b hb=>left.ran.fr.kept b hb fun i o hi ho=>by
                have:=(left.maskOwner hi ho).1
                simp at this
               refine⟨G,I,VR.flat hfl hv2,⟨rel.world fun b x hx=> ?_,GLe.refl _,ILe.refl _,fun g i h1 h2=>by rw[h1] at h2;simp at h2,OwnLe.refl _ _ _,⟨left.fr.os,left.fr.tape,left.fr.output,left.fr.size,fun b hb _=>hkeep b hb⟩,IFr.refl⟩,hfresh,Nat.le_refl _,Nat.le_refl _⟩
               rw[hkeep b (Array.getElem?_eq_some_iff.1 hx).1]
               exact hx
              ·rw[if_neg hflat] at hc
               have hml:(z0r T 0 hf hr).length=h.length:=by
                rw[z6k (by rw[left.lenf];exact left.lenr),left.lenf]
               split at hc
               ·rename_i hall
                simp only[Option.some.injEq,Prod.mk.injEq] at hc
                obtain⟨rfl,rfl,rfl⟩:=hc
                obtain⟨G2,b1,b2,b3⟩:=left.cut hfresh hv2 (fun q hq=>by simpa using List.all_eq_true.1 hall q hq)
                exact⟨G2,I2,b1,b2,b3,Nat.le_refl _,by rw[hml];exact Nat.le_refl _⟩
               ·simp only[Option.some.injEq,Prod.mk.injEq] at hc
                obtain⟨rfl,rfl,rfl⟩:=hc
                exact⟨G',I2,hv2,left.all,g3,hclk,by simp[hml]⟩
            exact⟨cv,hrun,cv,rfl,hpost⟩
           cases e with
           | norm=>exact q3t k1.dfr hfin
           | ret=>exact q3t k1.dfr hfin
           | exit id=>exact (hnoexit id rfl).elim
      ·simp at hcf
     ·simp at hcf
    ·simp at hcf
theorem y8u {Γ:AProg} {back:Nat→Option Nat} (hΓ:ProgOk P back Γ) (hB:q1p P back) (hD:x8c P back) (hR:q0y P Γ) (k:Nat):x2q P back (z4l Γ k):=by
 induction k using Nat.strongRecOn with
 | ind k ih=>exact v7a ih (fun j hj=>k0i (ih j hj) hΓ) hB hD hR
theorem q6e {Γ:AProg} {back:Nat→Option Nat} (hΓ:ProgOk P back Γ) (hB:q1p P back) (hD:x8c P back) (hR:q0y P Γ) (k:Nat):q4x P (z5f Γ k):=k0i (y8u hΓ hB hD hR k) hΓ
end
def Same (S:List Nat) (h k:List AObj):Prop:=∀ s∈S,h[s]? =k[s]?
theorem Same.set {S:List Nat} {h k:List AObj} (hs:Same S h k) (i:Nat) (o:AObj):Same S (h.set i o) (k.set i o):=fun s hm=>by
 have:=hs s hm
 simp only[List.getElem?_set]
 by_cases hi:i=s
 ·subst hi
  have hh:i < h.length↔i < k.length:=by
   constructor
   ·intro hl
    rw[List.getElem?_eq_getElem hl] at this
    exact (List.getElem?_eq_some_iff.1 this.symm).1
   ·intro hl
    rw[List.getElem?_eq_getElem hl] at this
    exact (List.getElem?_eq_some_iff.1 this).1
  simp[hh]
 ·simp[hi,this]
theorem z8r {h k:List AObj} {s g:Nat} (hs:h[s]? =k[s]?):z1s h s g=z1s k s g:=by unfold z1s;rw[hs]
theorem q6f {h k:List AObj} {s g:Nat} (hs:h[s]? =k[s]?):z5s h s g=z5s k s g:=by unfold z5s;rw[hs]
theorem x2r {h k:List AObj} {s g o l:Nat} (hs:h[s]? =k[s]?):q0r h s g o l=q0r k s g o l:=by unfold q0r;rw[z8r hs]
theorem Same.freeze1 {S:List Nat} {h k:List AObj} (hs:Same S h k) (i n:Nat):Same S (freeze1 h i n) (freeze1 k i n):=fun s hm=>by
 have he:=hs s hm
 have get:∀ h:List AObj,(Am.freeze1 h i n)[s]? =if i=s then (match h[s]? with | some (.blk g es row grow fz)=>some (.blk g es row grow (max fz n)) | o=>o) else h[s]? :=fun h=>by
  unfold Am.freeze1
  by_cases hi:i=s
  ·subst hi
   rw[if_pos rfl]
   cases hc:h[i]? with
   | none=>simp[hc]
   | some o=>
     have hlt:=(List.getElem?_eq_some_iff.1 hc).1
     have hv:=(List.getElem?_eq_some_iff.1 hc).2
     cases o <;> simp[hlt,hv]
  ·rw[if_neg hi]
   split
   ·rw[List.getElem?_set_ne hi]
   ·rfl
 rw[get,get,he]
theorem Same.freezeAll {S:List Nat}:∀ {h k:List AObj} (_:Same S h k) (l:List (Nat×Nat)),Same S (Am.freezeAll h l) (Am.freezeAll k l)
 | _,_,hs,[]=>hs
 | h,k,hs,x::l=>by
   rw[show x::l=[x]++l from rfl,z4h,z4h,z7c,z7c]
   exact Same.freezeAll (hs.freeze1 x.1 x.2) l
mutual
theorem q9i {h k:List AObj}:∀ {v:AV},Same (v.obs.map (·.1)) h k→conv h v=conv k v
 | .agg cs,hs=>by
   simp only[conv]
   rw[q2z (by simpa only[AV.obs] using hs)]
 | .tup cs,hs=>by
   simp only[conv]
   rw[q2z (by simpa only[AV.obs] using hs)]
 | .ob s g o l,hs=>by
   simp only[conv]
   rw[x2r (hs s (by simp[AV.obs]))]
 | .sl _ _,_=>rfl
 | .undef,_=>rfl
 | .int ..,_=>rfl
 | .bool _,_=>rfl
 | .str _,_=>rfl
 | .ptr ..,_=>rfl
 | .iptr _ _,_=>rfl
 | .nilptr,_=>rfl
 | .mp ..,_=>rfl
 | .nilmap,_=>rfl
 | .fn _ _,_=>rfl
 | .nilfn,_=>rfl
 | .nilif,_=>rfl
 | .bwd _ _,_=>rfl
theorem q2z {h k:List AObj}:∀ {vs:List AV},Same ((z3y vs).map (·.1)) h k→z7h h vs=z7h k vs
 | [],_=>rfl
 | v::vs,hs=>by
   simp only[z7h]
   rw[q9i (v:=v) (fun s hm=>hs s (by simp only[z3y,List.map_append,List.mem_append];exact .inl hm)),q2z (vs:=vs) (fun s hm=>hs s (by simp only[z3y,List.map_append,List.mem_append];exact .inr hm))]
end
theorem j3o {S:List Nat} {h k h1:List AObj} {v v':AV} (hs:Same S h k) (ho:∀ s∈v.obs.map (·.1),s∈S) (hp:pub h v=some (v',h1)):∃ k1,pub k v=some (v',k1)∧Same S h1 k1:=by
 simp only[pub,Option.map_eq_some_iff,Prod.mk.injEq] at hp
 obtain⟨v1,hc,rfl,rfl⟩:=hp
 refine⟨_, ?_,hs.freezeAll v.obs⟩
 rw[q9i (fun s hm=>hs s (ho s hm))] at hc
 simp[pub,hc]
theorem k0j {h h1:List AObj} {v v':AV} (hp:pub h v=some (v',h1)) (s:Nat) (hn:s∉v.obs.map (·.1)):h1[s]? =h[s]? :=by
 simp only[pub,Option.map_eq_some_iff,Prod.mk.injEq] at hp
 obtain⟨v1,hc,rfl,rfl⟩:=hp
 exact z6a _ _ hn
theorem x2s {h k:List AObj} {v:AV} (hs:Same v.ids h k):z4e h v=z4e k v:=by
 cases v <;> simp only[z4e]
 rename_i s g o l
 exact x2r (hs s (by simp[AV.ids]))
theorem j0x {h k:List AObj} {t:LenTy} {v:AV} (hs:Same v.ids h k):z9y h t v=z9y k t v:=by
 cases t <;> cases v <;> simp only[z9y]
 rename_i s g
 rw[q6f (hs s (by simp[AV.ids]))]
theorem x4t {h k:List AObj} {e:Option Nat} {v:AV} {lo hi mx:Option AV} (hs:Same v.ids h k):z3c h e v lo hi mx=z3c k e v lo hi mx:=by
 cases e <;> cases v <;> simp only[z3c]
 rename_i s g o l
 rw[z8r (hs s (by simp[AV.ids]))]
theorem j7c {h k:List AObj} {v:AV} (hs:Same v.ids h k):x7g h v=x7g k v:=by
 cases v <;> simp only[x7g]
 rename_i s g
 exact q6f (hs s (by simp[AV.ids]))
def z3u (base:Nat) (ts:Tmps) (a:AOp):List Nat×List Nat:=foot {fn:=fun _=>none,ext:=fun _=>none} [] [] base ts a
theorem j0y {S:List Nat} {h k h1:List AObj} {slot gen esz by_:Nat} {mu:Bool} {x y v:AV} (hs:Same S h k) (hx:∀ s∈x.ids,s∈S) (hy:∀ s∈y.ids,s∈S) (ha:z0n h slot gen esz by_ mu x y=some (v,h1)):
  ∃ k1,z0n k slot gen esz by_ mu x y=some (v,k1)∧Same S h1 k1:=by
 have hsrc:=x2s (v:=y) (fun s hm=>hs s (hy s hm))
 unfold z0n at ha⊢
 rw[hsrc] at ha
 split at ha
 ·simp at ha
 ·rename_i ys hys
  split at ha
  ·simp at ha
  ·rename_i hall
   rw[if_neg hall]
   split at ha
   ·rename_i xs t
    split at ha
    ·simp at ha
    ·rename_i hc
     rw[if_neg hc]
     split at ha
     ·rename_i hmu
      rw[if_pos hmu]
      split at ha
      ·simp only[Option.some.injEq,Prod.mk.injEq] at ha
       obtain⟨rfl,rfl⟩:=ha
       exact⟨_,rfl,hs.set _ _⟩
      ·simp only[Option.some.injEq,Prod.mk.injEq] at ha
       obtain⟨rfl,rfl⟩:=ha
       exact⟨_,rfl,hs.set _ _⟩
      ·simp at ha
     ·rename_i hmu
      rw[if_neg hmu]
      split at ha
      ·simp only[Option.some.injEq,Prod.mk.injEq] at ha
       obtain⟨rfl,rfl⟩:=ha
       exact⟨_,rfl,hs.set _ _⟩
      ·simp only[Option.some.injEq,Prod.mk.injEq] at ha
       obtain⟨rfl,rfl⟩:=ha
       exact⟨_,rfl,hs.set _ _⟩
      ·rename_i s g
       have:=hs s (hx s (by simp[AV.ids]))
       rw[this] at ha
       split at ha
       ·rename_i g' e' heq
        split at ha
        ·rename_i hg
         simp only[Option.some.injEq,Prod.mk.injEq] at ha
         obtain⟨rfl,rfl⟩:=ha
         refine⟨_, ?_,(hs.set s _).set _ _⟩
         rw[if_pos hg]
        ·simp at ha
       ·simp at ha
      ·simp at ha
   ·rename_i s g off len
    have hb:z1s h s g=z1s k s g:=z8r (hs s (hx s (by simp[AV.ids])))
    rw[hb] at ha
    split at ha
    ·rename_i es grow fz heq
     split at ha
     ·simp at ha
     ·rename_i hc
      rw[if_neg hc]
      split at ha
      ·rename_i he
       rw[if_pos he]
       simp only[Option.some.injEq,Prod.mk.injEq] at ha
       obtain⟨rfl,rfl⟩:=ha
       exact⟨_,rfl,hs⟩
      ·rename_i he
       rw[if_neg he]
       split at ha
       ·rename_i hgr
        rw[if_pos hgr]
        split at ha
        ·rename_i hc2
         rw[if_pos hc2]
         simp only[Option.some.injEq,Prod.mk.injEq] at ha
         obtain⟨rfl,rfl⟩:=ha
         exact⟨_,rfl,(hs.set s _).set _ _⟩
        ·simp at ha
       ·rename_i hgr
        rw[if_neg hgr]
        split at ha
        ·rename_i hc2
         rw[if_pos hc2]
         split at ha
         ·rename_i hc3
          rw[if_pos hc3]
          simp only[Option.some.injEq,Prod.mk.injEq] at ha
          obtain⟨rfl,rfl⟩:=ha
          exact⟨_,rfl,hs.set s _⟩
         ·simp at ha
        ·rename_i hc2
         rw[if_neg hc2]
         split at ha
         ·rename_i hc3
          rw[if_pos hc3]
          simp only[Option.some.injEq,Prod.mk.injEq] at ha
          obtain⟨rfl,rfl⟩:=ha
          exact⟨_,rfl,hs.set _ _⟩
         ·simp at ha
    ·simp at ha
   ·simp at ha
theorem q5a {S:List Nat} {h k h1:List AObj} {base gen:Nat} {ts:Tmps} {a:AOp} {v:AV} (hs:Same S h k) (hf:∀ s∈(z3u base ts a).1++(z3u base ts a).2,s∈S) (hr:prim h base gen ts a=some (v,h1)):
  ∃ k1,prim k base gen ts a=some (v,k1)∧Same S h1 k1:=by
 cases a with
 | move x=>
   simp only[prim,Option.some.injEq,Prod.mk.injEq] at hr⊢
   obtain⟨rfl,rfl⟩:=hr
   exact⟨k,⟨rfl,rfl⟩,hs⟩
 | pick c a b=>
   simp only[prim] at hr⊢
   split at hr
   ·simp only[Option.some.injEq,Prod.mk.injEq] at hr
    obtain⟨rfl,rfl⟩:=hr
    exact⟨k,rfl,hs⟩
   ·simp at hr
 | alloc n z=>
   simp only[prim] at hr⊢
   split at hr
   ·simp at hr
   ·rename_i hc
    rw[if_neg hc]
    simp only[Option.some.injEq,Prod.mk.injEq] at hr
    obtain⟨rfl,rfl⟩:=hr
    exact⟨_,rfl,hs.set _ _⟩
 | box n x=>
   simp only[prim] at hr⊢
   split at hr
   ·simp at hr
   ·rename_i hc
    rw[if_neg hc]
    simp only[Option.some.injEq,Prod.mk.injEq] at hr
    obtain⟨rfl,rfl⟩:=hr
    exact⟨_,rfl,hs.set _ _⟩
 | build z ps=>
   simp only[prim,Option.map_eq_some_iff,Prod.mk.injEq] at hr⊢
   obtain⟨cs,h2,rfl,rfl⟩:=hr
   exact⟨k,⟨cs,h2,rfl,rfl⟩,hs⟩
 | buildSlice n mu z m ps=>
   simp only[prim] at hr⊢
   split at hr
   ·simp at hr
   ·rename_i hc
    rw[if_neg hc]
    have hcv:z7h h (ps.map fun p=>p.2.ev ts)=z7h k (ps.map fun p=>p.2.ev ts):=q2z fun s hm=>hs s (hf s (by simp only[z3u,foot,List.mem_append];exact .inr (.inr hm)))
    rw[hcv] at hr
    split at hr
    ·simp only[Option.map_eq_some_iff] at hr
     obtain⟨es,h2,h3⟩:=hr
     cases mu with
     | true=>
       simp only[if_true,Prod.mk.injEq] at h3
       obtain⟨rfl,rfl⟩:=h3
       exact⟨_,by simp[h2],(hs.freezeAll _).set _ _⟩
     | false=>
       simp only[Bool.false_eq_true,if_false,Prod.mk.injEq] at h3
       obtain⟨rfl,rfl⟩:=h3
       exact⟨_,by simp[h2],hs.freezeAll _⟩
    ·simp at hr
 | load sz x=>
   simp only[prim] at hr⊢
   have hids:∀ s∈(x.ev ts).ids,s∈S:=fun s hm=>hf s (by simp only[z3u,foot,List.mem_append];exact .inl hm)
   split at hr
   ·rename_i s g i o heq
    have hb:z1s h s g=z1s k s g:=z8r (hs s (hids s (by simp[heq,AV.ids])))
    rw[hb] at hr
    split at hr
    ·simp only[Option.bind_eq_some_iff,Option.map_eq_some_iff,Prod.mk.injEq] at hr
     obtain⟨e,h2,v',h3,rfl,rfl⟩:=hr
     exact⟨k,by simp[h2,h3],hs⟩
    ·simp at hr
   ·simp only[Option.map_eq_some_iff,Prod.mk.injEq] at hr⊢
    obtain⟨v',h3,rfl,rfl⟩:=hr
    exact⟨k,⟨v',h3,rfl,rfl⟩,hs⟩
   ·simp at hr
 | store sz x y=>
   simp only[prim] at hr⊢
   have hids:∀ s∈(x.ev ts).ids,s∈S:=fun s hm=>hf s (by simp only[z3u,foot,List.mem_append];exact .inr (.inl hm))
   have hobs:∀ s∈(y.ev ts).obs.map (·.1),s∈S:=fun s hm=>hf s (by simp only[z3u,foot,List.mem_append];exact .inr (.inr hm))
   split at hr
   ·rename_i s g i o heq
    have hb:z1s h s g=z1s k s g:=z8r (hs s (hids s (by simp[heq,AV.ids])))
    rw[hb] at hr
    split at hr
    ·rename_i es row grow fz hbk
     split at hr
     ·rename_i e v1 h1' he hpub
      obtain⟨k1',hpk,hsame⟩:∃ k1',(if row=true then pub k (y.ev ts) else some (y.ev ts,k))=some (v1,k1')∧Same S h1' k1':=by
       cases row with
       | true=>
         simp only[if_true] at hpub⊢
         exact j3o hs hobs hpub
       | false=>
         simp only[Bool.false_eq_true,if_false,Option.some.injEq,Prod.mk.injEq] at hpub⊢
         obtain⟨rfl,rfl⟩:=hpub
         exact⟨k,⟨rfl,rfl⟩,hs⟩
      split at hr
      ·rename_i hc
       simp only[Option.map_eq_some_iff,Prod.mk.injEq] at hr
       obtain⟨cs,h2,rfl,rfl⟩:=hr
       refine⟨_, ?_,hsame.set s _⟩
       rw[he,hpk]
       simp only[if_pos hc,h2,Option.map_some]
      ·simp at hr
     ·simp at hr
    ·simp at hr
   ·simp at hr
 | nilCheck x=>
   simp only[prim] at hr⊢
   split at hr
   ·simp only[Option.some.injEq,Prod.mk.injEq] at hr
    obtain⟨rfl,rfl⟩:=hr
    exact⟨k,rfl,hs⟩
   ·simp only[Option.some.injEq,Prod.mk.injEq] at hr
    obtain⟨rfl,rfl⟩:=hr
    exact⟨k,rfl,hs⟩
   ·simp at hr
 | binOp op t x y=>
   simp only[prim,Option.map_eq_some_iff,Prod.mk.injEq] at hr⊢
   obtain⟨cs,h2,rfl,rfl⟩:=hr
   exact⟨k,⟨cs,h2,rfl,rfl⟩,hs⟩
 | unOp op x=>
   simp only[prim,Option.map_eq_some_iff,Prod.mk.injEq] at hr⊢
   obtain⟨cs,h2,rfl,rfl⟩:=hr
   exact⟨k,⟨cs,h2,rfl,rfl⟩,hs⟩
 | cInt kd x=>
   simp only[prim] at hr⊢
   split at hr
   ·simp only[Option.some.injEq,Prod.mk.injEq] at hr
    obtain⟨rfl,rfl⟩:=hr
    exact⟨k,rfl,hs⟩
   ·simp at hr
 | cStr x=>
   simp only[prim] at hr⊢
   split at hr
   ·simp only[Option.some.injEq,Prod.mk.injEq] at hr
    obtain⟨rfl,rfl⟩:=hr
    exact⟨k,rfl,hs⟩
   ·simp at hr
 | toBytes x=>
   simp only[prim] at hr⊢
   split at hr
   ·simp only[Option.some.injEq,Prod.mk.injEq] at hr
    obtain⟨rfl,rfl⟩:=hr
    exact⟨k,rfl,hs⟩
   ·simp at hr
 | ofBytes x=>
   simp only[prim] at hr⊢
   have hids:∀ s∈(x.ev ts).ids,s∈S:=fun s hm=>hf s (by simp only[z3u,foot,List.mem_append];exact .inl hm)
   have hsrc:=x2s (h:=h) (k:=k) (v:=x.ev ts) (fun s hm=>hs s (hids s hm))
   split at hr
   ·simp at hr
   ·rw[hsrc] at hr
    simp only[Option.map_eq_some_iff,Prod.mk.injEq] at hr⊢
    obtain⟨cs,h2,rfl,rfl⟩:=hr
    exact⟨k,⟨cs,h2,rfl,rfl⟩,hs⟩
 | makeMap n=>
   simp only[prim,Option.some.injEq,Prod.mk.injEq] at hr⊢
   obtain⟨rfl,rfl⟩:=hr
   exact⟨_,⟨rfl,rfl⟩,hs.set _ _⟩
 | lookup t z x ix ok=>
   simp only[prim] at hr⊢
   have hids:∀ s∈(x.ev ts).ids,s∈S:=fun s hm=>hf s (by simp only[z3u,foot,List.mem_append];exact .inl hm)
   rw[j7c (h:=h) (k:=k) (v:=x.ev ts) (fun s hm=>hs s (hids s hm))] at hr
   split at hr
   ·split at hr
    ·rename_i hc
     rw[if_pos hc]
     simp only[Option.map_eq_some_iff,Prod.mk.injEq] at hr⊢
     obtain⟨cs,h2,rfl,rfl⟩:=hr
     exact⟨k,⟨cs,h2,rfl,rfl⟩,hs⟩
    ·simp at hr
   ·simp at hr
 | mapUpdate t m kk x=>
   simp only[prim] at hr⊢
   have hids:∀ s∈(m.ev ts).ids,s∈S:=fun s hm=>hf s (by simp only[z3u,foot,List.mem_append];exact .inr (.inl hm))
   have hobs:∀ s∈(x.ev ts).obs.map (·.1),s∈S:=fun s hm=>hf s (by simp only[z3u,foot,List.mem_append];exact .inr (.inr hm))
   split at hr
   ·rename_i s g heq
    have hb:z5s h s g=z5s k s g:=q6f (hs s (hids s (by simp[heq,AV.ids])))
    rw[hb] at hr
    split at hr
    ·rename_i es v1 h1' hes hpub
     obtain⟨k1',hpk,hsame⟩:=j3o hs hobs hpub
     split at hr
     ·rename_i hc
      simp only[Option.map_eq_some_iff,Prod.mk.injEq] at hr
      obtain⟨cs,h2,rfl,rfl⟩:=hr
      refine⟨_, ?_,hsame.set s _⟩
      rw[hes,hpk]
      simp only[if_pos hc,h2,Option.map_some]
     ·simp at hr
    ·simp at hr
   ·simp at hr
 | makeRow n z by_ l c=>
   simp only[prim] at hr⊢
   split at hr
   ·split at hr
    ·rename_i hc
     rw[if_pos hc]
     simp only[Option.some.injEq,Prod.mk.injEq] at hr
     obtain⟨rfl,rfl⟩:=hr
     exact⟨_,rfl,hs⟩
    ·rename_i hc
     rw[if_neg hc]
     split at hr
     ·rename_i hc
      rw[if_pos hc]
      simp only[Option.some.injEq,Prod.mk.injEq] at hr
      obtain⟨rfl,rfl⟩:=hr
      exact⟨_,rfl,hs.set _ _⟩
     ·simp at hr
   ·simp at hr
 | makeSlice n z by_ l c=>
   simp only[prim] at hr⊢
   split at hr
   ·split at hr
    ·rename_i hc
     rw[if_pos hc]
     simp only[Option.some.injEq,Prod.mk.injEq] at hr
     obtain⟨rfl,rfl⟩:=hr
     exact⟨_,rfl,hs.set _ _⟩
    ·simp at hr
   ·simp at hr
 | slice e x lo hi mx=>
   simp only[prim] at hr⊢
   have hids:∀ s∈(x.ev ts).ids,s∈S:=fun s hm=>hf s (by simp only[z3u,foot,List.mem_append];exact .inl hm)
   rw[x4t (h:=h) (k:=k) (v:=x.ev ts) (fun s hm=>hs s (hids s hm))] at hr
   simp only[Option.map_eq_some_iff,Prod.mk.injEq] at hr⊢
   obtain⟨cs,h2,rfl,rfl⟩:=hr
   exact⟨k,⟨cs,h2,rfl,rfl⟩,hs⟩
 | fieldAddr x o=>
   simp only[prim] at hr⊢
   split at hr
   ·simp only[Option.some.injEq,Prod.mk.injEq] at hr
    obtain⟨rfl,rfl⟩:=hr
    exact⟨k,rfl,hs⟩
   ·simp only[Option.some.injEq,Prod.mk.injEq] at hr
    obtain⟨rfl,rfl⟩:=hr
    exact⟨k,rfl,hs⟩
   ·simp at hr
 | field x o sz=>
   simp only[prim] at hr⊢
   split at hr
   ·simp only[Option.map_eq_some_iff,Prod.mk.injEq] at hr⊢
    obtain⟨cs,h2,rfl,rfl⟩:=hr
    exact⟨k,⟨cs,h2,rfl,rfl⟩,hs⟩
   ·simp at hr
 | indexAddr arr esz x ix=>
   simp only[prim] at hr⊢
   have hids:∀ s∈(x.ev ts).ids,s∈S:=fun s hm=>hf s (by simp only[z3u,foot,List.mem_append];exact .inl hm)
   split at hr
   ·split at hr
    ·rename_i h0
     rw[if_pos h0]
     split at hr
     ·split at hr
      ·split at hr
       ·rename_i hc
        rw[if_pos hc]
        simp only[Option.some.injEq,Prod.mk.injEq] at hr
        obtain⟨rfl,rfl⟩:=hr
        exact⟨k,rfl,hs⟩
       ·simp at hr
      ·simp at hr
     ·rename_i s g off len heq
      have hb:z1s h s g=z1s k s g:=z8r (hs s (hids s (by simp[heq,AV.ids])))
      rw[hb] at hr
      split at hr
      ·split at hr
       ·split at hr
        ·rename_i hc
         rw[if_pos hc]
         simp only[Option.some.injEq,Prod.mk.injEq] at hr
         obtain⟨rfl,rfl⟩:=hr
         exact⟨k,rfl,hs⟩
        ·simp at hr
       ·simp at hr
      ·simp at hr
     ·split at hr
      ·rename_i hc
       rw[if_pos hc]
       simp only[Option.some.injEq,Prod.mk.injEq] at hr
       obtain⟨rfl,rfl⟩:=hr
       exact⟨k,rfl,hs⟩
      ·simp at hr
     ·split at hr
      ·rename_i hc
       rw[if_pos hc]
       simp only[Option.some.injEq,Prod.mk.injEq] at hr
       obtain⟨rfl,rfl⟩:=hr
       exact⟨k,rfl,hs⟩
      ·simp at hr
     ·simp at hr
    ·simp at hr
   ·simp at hr
 | index arr x ix=>
   simp only[prim] at hr⊢
   split at hr
   ·split at hr
    ·rename_i h0
     rw[if_pos h0]
     split at hr
     ·simp only[Option.map_eq_some_iff,Prod.mk.injEq] at hr⊢
      obtain⟨cs,h2,rfl,rfl⟩:=hr
      exact⟨k,⟨cs,h2,rfl,rfl⟩,hs⟩
     ·split at hr
      ·rename_i hc
       rw[if_pos hc]
       simp only[Option.map_eq_some_iff,Prod.mk.injEq] at hr⊢
       obtain⟨cs,h2,rfl,rfl⟩:=hr
       exact⟨k,⟨cs,h2,rfl,rfl⟩,hs⟩
      ·simp at hr
     ·simp at hr
    ·simp at hr
   ·simp at hr
 | makeFunc f cap=>
   simp only[prim,Option.some.injEq,Prod.mk.injEq] at hr⊢
   obtain⟨rfl,rfl⟩:=hr
   exact⟨k,⟨rfl,rfl⟩,hs⟩
 | extract x i=>
   simp only[prim] at hr⊢
   split at hr
   ·simp only[Option.map_eq_some_iff,Prod.mk.injEq] at hr⊢
    obtain⟨cs,h2,rfl,rfl⟩:=hr
    exact⟨k,⟨cs,h2,rfl,rfl⟩,hs⟩
   ·simp at hr
 | len t x=>
   simp only[prim] at hr⊢
   have hids:∀ s∈(x.ev ts).ids,s∈S:=fun s hm=>hf s (by simp only[z3u,foot,List.mem_append];exact .inl hm)
   rw[j0x (h:=h) (k:=k) (v:=x.ev ts) (fun s hm=>hs s (hids s hm))] at hr
   simp only[Option.map_eq_some_iff,Prod.mk.injEq] at hr⊢
   obtain⟨cs,h2,rfl,rfl⟩:=hr
   exact⟨k,⟨cs,h2,rfl,rfl⟩,hs⟩
 | minmax m x y=>
   simp only[prim] at hr⊢
   split at hr
   ·simp only[Option.some.injEq,Prod.mk.injEq] at hr
    obtain⟨rfl,rfl⟩:=hr
    exact⟨k,rfl,hs⟩
   ·simp at hr
 | append n esz by_ mu x y=>
   simp only[prim] at hr⊢
   refine j0y hs (fun s hm=>hf s ?_) (fun s hm=>hf s ?_) hr
   ·simp only[z3u,foot,List.mem_append,List.mem_cons]
    exact .inr (.inr hm)
   ·simp only[z3u,foot,List.mem_append]
    exact .inl hm
 | backward f x=>
   simp only[prim] at hr⊢
   split at hr
   ·rename_i hc
    rw[if_pos hc]
    simp only[Option.some.injEq,Prod.mk.injEq] at hr⊢
    obtain⟨rfl,rfl⟩:=hr
    exact⟨k,⟨rfl,rfl⟩,hs⟩
   ·simp at hr
 | call f xs=>simp[prim] at hr
 | callv x xs=>simp[prim] at hr
 | bad=>simp[prim] at hr
end Go.Proofs.YtdfepmffiampgaaGreatDoor.Am
