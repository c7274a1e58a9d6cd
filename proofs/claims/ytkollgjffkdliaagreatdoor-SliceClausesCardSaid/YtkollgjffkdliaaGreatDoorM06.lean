/- One operation of the abstract machine stands for one operation of the model: all that are no calls One operation of the abstract machine stands for one operation of the model: the rest, and all togeth -/
import Derived.Test.YtkollgjffkdliaaGreatDoorM05
set_option linter.all false
namespace Go.Proofs.YtkollgjffkdliaaGreatDoor.Am
open Go
set_option maxRecDepth 100000
section
variable {P:Program} {G:Ghost} {I:Imm} {h:List AObj} {w:World} {gen slot:Nat}
def vOf (s:Sem Value):Sem Next:=s.bind fun v=>Sem.pure (.value v)
def uOf (s:Sem Unit):Sem Next:=s.bind fun _=>Sem.pure .skip
theorem j1z {s:Sem Value} {cv:Value} {w':World} (hr:s.run P w= .ok cv w'):(vOf s).run P w= .ok (.value cv) w':=by
 unfold vOf
 rw[z4y,hr]
 rfl
theorem Step.val {s:Sem Value} {v:AV} (hg:G gen=none) (rel:Rel G I h w) (hr:∃ cv,s.run P w= .ok cv w∧VR G I v cv):Step G I h w gen slot ((vOf s).run P w) v h:=by
 obtain⟨cv,h1,h2⟩:=hr
 exact Step.pure hg rel (j1z h1) h2
theorem z5u {s:Nat}:∀ (l:List (Nat×Nat)) (h:List AObj),s∉l.map (·.1)→(freezeAll h l)[s]? =h[s]?
 | [],h,_=>rfl
 | x::l,h,hn=>by
   simp only[List.map_cons,List.mem_cons,not_or] at hn
   rw[show x::l=[x]++l from rfl,z3y,z6z,z5u l _ hn.2]
   unfold freeze1
   split
   ·rw[List.getElem?_set_ne (Ne.symm hn.1)]
   ·rfl
variable {ts:Tmps} {ρ:Operand→Value} {v:AV} {h':List AObj} {n:Nat} {mu:Bool} {base:Nat} {back:Nat→Option Nat}
abbrev Does (P:Program) (G:Ghost) (I:Imm) (h:List AObj) (w:World) (gen slot:Nat) (ρ:Operand→Value) (op:Op) (v:AV) (h':List AObj):Prop:=
 ∀ (dst:Option Nat) (ty:TypeId) (pos:String) (after:Array Edge) (guard:Option (Nat×Bool)),Step G I h w gen slot ((execOp ρ ⟨dst,op,ty,pos,after,guard⟩).run P w) v h'
theorem k1l {x:Operand} {a:AOp} (hg:G gen=none) (rel:Rel G I h w) (ht:TR G I ts ρ) (hc:(z6n x).map AOp.move=some a) (hp:prim h base gen ts a=some (v,h')):Does P G I h w gen slot ρ (.move x) v h'∧Does P G I h w gen slot ρ (.assign x) v h':=by
 simp only[Option.map_eq_some_iff] at hc
 obtain⟨b,h1,rfl⟩:=hc
 simp[prim] at hp
 obtain⟨rfl,rfl⟩:=hp
 exact⟨fun _ _ _ _ _=>Step.pure hg rel rfl (z1j ht h1),fun _ _ _ _ _=>Step.pure hg rel rfl (z1j ht h1)⟩
theorem v8q {c x y:Operand} {a:AOp} (hg:G gen=none) (rel:Rel G I h w) (ht:TR G I ts ρ) (hc:cOp P back n mu (.pick c x y)=some a) (hp:prim h base gen ts a=some (v,h')):Does P G I h w gen slot ρ (.pick c x y) v h':=by
 simp only[cOp] at hc
 split at hc
 ·rename_i c' x' y' h1 h2 h3
  simp at hc
  subst hc
  simp only[prim] at hp
  split at hp
  ·rename_i t heq
   simp at hp
   obtain⟨rfl,rfl⟩:=hp
   have hcv:=z1j ht h1
   rw[heq] at hcv
   simp only[VR] at hcv
   intro _ _ _ _ _
   refine Step.pure hg rel (cv:=if t then ρ x else ρ y) ?_ ?_
   ·simp only[execOp,hcv]
    cases t <;> rfl
   ·cases t
    ·exact z1j ht h3
    ·exact z1j ht h2
  ·simp at hp
 ·simp at hc
theorem j4z {z:AV} (hz:¬ (z.cells.isEmpty || !z.def?)=true):z.cells≠[]∧z.def? =true:=by
 simp at hz
 exact⟨hz.1,hz.2⟩
theorem k8a {t:TypeId} {a:AOp} (hg:G gen=none) (rel:Rel G I h w) (hc:cOp P back n mu (.alloc t)=some a) (hp:prim h base gen ts a=some (v,h')):Does P G I h w gen (base + n) ρ (.alloc t) v h':=by
 simp only[cOp,Option.map_eq_some_iff] at hc
 obtain⟨z,h1,rfl⟩:=hc
 simp only[prim] at hp
 split at hp
 ·simp at hp
 ·rename_i hz
  simp only[Option.some.injEq,Prod.mk.injEq] at hp
  obtain⟨rfl,rfl⟩:=hp
  obtain⟨hne,hd⟩:=j4z hz
  obtain⟨i,zv,hi,hzv,hvr⟩:=z9u (G:=G) (I:=I) h1
  intro _ _ _ _ _
  refine j4s (t:=t) hg rel hd hne hvr ?_
  have hz:(zeroValue t).run P w= .ok zv w:=by simp[zeroValue,typeInfo,hi,hzv]
  show Sem.run P (vOf (Instr.alloc t true (.tuple #[]))) w=_
  refine j1z ?_
  simp[Instr.alloc,hz,newVar,newRow]
theorem w6u {t:TypeId} {x:Operand} {a:AOp} (hg:G gen=none) (rel:Rel G I h w) (ht:TR G I ts ρ) (hc:cOp P back n mu (.box t x)=some a) (hp:prim h base gen ts a=some (v,h')):Does P G I h w gen (base + n) ρ (.box t x) v h':=by
 simp only[cOp,Option.map_eq_some_iff] at hc
 obtain⟨z,h1,rfl⟩:=hc
 simp only[prim] at hp
 split at hp
 ·simp at hp
 ·rename_i hz
  simp only[Option.some.injEq,Prod.mk.injEq] at hp
  obtain⟨rfl,rfl⟩:=hp
  obtain⟨hne,hd⟩:=j4z hz
  intro _ _ _ _ _
  refine j4s (t:=t) hg rel hd hne (z1j ht h1) ?_
  show Sem.run P (vOf (Instr.box t (ρ x))) w=_
  refine j1z ?_
  simp[Instr.box,newVar,newRow]
theorem k8b {t:TypeId} {parts:Array (Nat×Operand)} {a:AOp} (hg:G gen=none) (rel:Rel G I h w) (ht:TR G I ts ρ) (hc:cOp P back n mu (.build t parts)=some a) (hp:prim h base gen ts a=some (v,h')):Does P G I h w gen slot ρ (.build t parts) v h':=by
 have fin:∀ {z:AV} {ps:List (Nat×Nat×AOpd)} {q0x:Nat→Option (Nat×Nat)},zeroP P t=some z→((∃ fs places,P.underlying t=some (.struct fs)∧fs.toList.mapM (fun f=>(P.info? f.type).map fun i=>(f.offset,i.size))=some places∧q0x=fun i=>places[i]?)∨
   (∃ n e s,P.underlying t=some (.array n e)∧sizeP P e=some s∧q0x=fun i=>some (i * s,s)))→q7v parts.toList q0x=some ps→a= .build z.cells ps→Does P G I h w gen slot ρ (.build t parts) v h':=by
  intro z ps q0x hz hpl hcp ha
  subst ha
  simp only[prim,Option.map_eq_some_iff,Prod.mk.injEq] at hp
  obtain⟨cs,h1,rfl,rfl⟩:=hp
  intro _ _ _ _ _
  exact Step.val hg rel (k7y ht hz hpl hcp h1)
 simp only[cOp] at hc
 split at hc
 ·rename_i fs z hu hz
  split at hc
  ·rename_i places hpl
   simp only[Option.map_eq_some_iff] at hc
   obtain⟨ps,h1,h2⟩:=hc
   exact fin hz (.inl ⟨fs,places,hu,hpl,rfl⟩) h1 h2.symm
  ·simp at hc
 ·rename_i m e z hu hz
  split at hc
  ·rename_i s hs
   simp only[Option.map_eq_some_iff] at hc
   obtain⟨ps,h1,h2⟩:=hc
   exact fin hz (.inr ⟨m,e,s,hu,hs,rfl⟩) h1 h2.symm
  ·simp at hc
 ·simp at hc
theorem x5p {t:TypeId} {m:Nat} {parts:Array (Nat×Operand)} {a:AOp} (hg:G gen=none) (rel:Rel G I h w) (ht:TR G I ts ρ) (hc:cOp P back n mu (.buildSlice t m parts)=some a) (hp:prim h base gen ts a=some (v,h')):Does P G I h w gen (base + n) ρ (.buildSlice t m parts) v h':=by
 simp only[cOp] at hc
 split at hc
 ·rename_i e hu
  split at hc
  ·rename_i s z ps hs hz hps
   split at hc
   ·rename_i hcond
    simp only[Option.some.injEq] at hc
    subst hc
    simp only[prim] at hp
    split at hp
    ·simp at hp
    ·split at hp
     ·rename_i vs hcv
      simp only[Option.map_eq_some_iff] at hp
      obtain⟨es,h1,h2⟩:=hp
      intro _ _ _ _ _
      simp only[execOp]
      have:=q9u (gen:=gen) (slot:=base + n) (mu:=mu) (n:=m) (parts:=parts) hg rel ht hu hs hz hps hcond.1 hcond.2.1 hcond.2.2 hcv h1 rfl
      cases mu with
      | true=>
        simp only[if_true,Prod.mk.injEq] at h2
        rw[←h2.1,←h2.2]
        exact this
      | false=>
        simp only[Bool.false_eq_true,if_false,Prod.mk.injEq] at h2
        rw[←h2.1,←h2.2]
        exact this
     ·simp at hp
   ·simp at hc
  ·simp at hc
 ·simp at hc
theorem v8r {t:TypeId} {x:Operand} {a:AOp} (hg:G gen=none) (rel:Rel G I h w) (ht:TR G I ts ρ) (hc:cOp P back n mu (.load t x)=some a) (hp:prim h base gen ts a=some (v,h')):Does P G I h w gen slot ρ (.load t x) v h':=by
 simp only[cOp] at hc
 split at hc
 ·rename_i s b hs hb
  simp at hc
  subst hc
  have hx:=z1j ht hb
  simp only[prim] at hp
  split at hp
  ·rename_i s' g i o heq
   rw[heq] at hx
   split at hp
   ·rename_i es row grow fz hbk
    cases he:es[i]? with
    | none=>simp[he] at hp
    | some e=>
      simp only[he,Option.bind_some,Option.map_eq_some_iff,Prod.mk.injEq] at hp
      obtain⟨v',hr,rfl,rfl⟩:=hp
      intro _ _ _ _ _
      exact Step.val hg rel (k7s rel hx hs hbk he hr)
   ·simp at hp
  ·rename_i cs o heq
   rw[heq] at hx
   simp only[Option.map_eq_some_iff,Prod.mk.injEq] at hp
   obtain⟨v',hr,rfl,rfl⟩:=hp
   intro _ _ _ _ _
   exact Step.val hg rel (k0x rel hx hs hr)
  ·simp at hp
 ·simp at hc
theorem k8c {t:TypeId} {x y:Operand} {a:AOp} (hg:G gen=none) (rel:Rel G I h w) (ht:TR G I ts ρ) (hc:cOp P back n mu (.store t x y)=some a) (hp:prim h base gen ts a=some (v,h')):Does P G I h w gen slot ρ (.store t x y) v h':=by
 simp only[cOp] at hc
 split at hc
 ·rename_i sz a1 x1 hs h1 h2
  split at hc
  ·simp at hc
  ·rename_i hsz
   simp at hc
   subst hc
   have hx:=z1j ht h1
   have hy:=z1j ht h2
   simp only[prim] at hp
   split at hp
   ·rename_i s g i o heq
    rw[heq] at hx
    split at hp
    ·rename_i es row grow fz hbk
     have hb:=z9t hbk
     split at hp
     ·rename_i e v1 h1' he hpub
      split at hp
      ·rename_i hcond
       simp only[Option.map_eq_some_iff,Prod.mk.injEq] at hp
       obtain⟨cs,hsp,rfl,rfl⟩:=hp
       obtain⟨hd,hl,hone,hrow⟩:=hcond
       have pre:∃ I1,ILe I I1∧Rel G I1 h1' w∧VR G I1 v1 (ρ y)∧h1'[s]? =some (.blk g es row grow fz)∧(∀ (i:Nat) o b,h1'[i]? =some o→own G o=some b→∃ (j:Nat) (x:AObj),h[j]? =some x∧own G x=some b)∧NoNew G h I I1:=by
        cases row with
        | false=>
          simp at hpub
          obtain⟨rfl,rfl⟩:=hpub
          exact⟨I,ILe.refl _,rel,hy,hb,fun i o b hi hb=>⟨i,o,hi,hb⟩,NoNew.refl⟩
        | true=>
          simp only[if_true,pub,Option.map_eq_some_iff,Prod.mk.injEq] at hpub
          obtain⟨v2,hcv,rfl,rfl⟩:=hpub
          obtain⟨I1,hI1,rel1,hv1,hnn⟩:=q9n hcv hy (Frozen.refl h) rel
          refine⟨I1,hI1,rel1,hv1, ?_,z9a (z2e _ _),hnn⟩
          rw[z5u _ _ (by have:=(hrow rfl).2;simpa using this)]
          exact hb
       obtain⟨I1,hI1,rel1,hv1,hb1,hown,hnn⟩:=pre
       obtain⟨b,cs',ho,hrun,hrel⟩:=k0y rel1 (VR.mono (GLe.refl _) hI1 hx) hs hb1 he hd hl (by omega) hone (fun hr=>(hrow hr).1) hsp hv1
       intro _ _ _ _ _
       refine Step.pre (I1:=I1) (h':=h1') ?_ hI1 hnn hown
       refine⟨.skip,undef,w.setRow b cs',G,I1, ?_, .inr ⟨rfl,rfl⟩,by simp[VR],hrel,GLe.refl _,ILe.refl _,fun _ _=>rfl,fun i hi=>by simp[hg] at hi, ?_,Fr.setRow hb1 ho,IFr.refl⟩
       ·show Sem.run P (uOf (Instr.storeAt t (ρ x) (ρ y))) w=_
        unfold uOf
        rw[z4y,hrun]
        rfl
       ·refine OwnLe.same fun j o hj=> ?_
        rcases getElem?_set_cases hj with ⟨rfl,rfl⟩ | ⟨_,hj⟩
        ·exact⟨j,_,hb1,fun b hb=>by simpa [own] using hb⟩
        ·exact⟨j,o,hj,fun _ hb=>hb⟩
      ·simp at hp
     ·simp at hp
    ·simp at hp
   ·simp at hp
 ·simp at hc
theorem j2a {x:Operand} {a:AOp} (hg:G gen=none) (rel:Rel G I h w) (ht:TR G I ts ρ) (hc:cOp P back n mu (.nilCheck x)=some a) (hp:prim h base gen ts a=some (v,h')):Does P G I h w gen slot ρ (.nilCheck x) v h':=by
 simp only[cOp,Option.map_eq_some_iff] at hc
 obtain⟨b,h1,rfl⟩:=hc
 have hx:=z1j ht h1
 simp only[prim] at hp
 split at hp
 ·rename_i s g i o heq
  rw[heq] at hx
  simp at hp
  obtain⟨rfl,rfl⟩:=hp
  intro _ _ _ _ _
  have hx':=hx
  simp only[VR] at hx'
  obtain⟨gi,_,_,hv⟩:=hx'
  exact Step.pure hg rel (cv:=ρ x) (by simp only[execOp,hv];rfl) hx
 ·rename_i cs o heq
  rw[heq] at hx
  simp at hp
  obtain⟨rfl,rfl⟩:=hp
  intro _ _ _ _ _
  have hx':=hx
  simp only[VR] at hx'
  obtain⟨b,p,hv,_⟩:=hx'
  exact Step.pure hg rel (cv:=ρ x) (by simp only[execOp,hv];rfl) hx
 ·simp at hp
theorem k8d {op:BinOp} {t yt:TypeId} {x y:Operand} {a:AOp} (hg:G gen=none) (rel:Rel G I h w) (ht:TR G I ts ρ) (hc:cOp P back n mu (.binOp op t x y yt)=some a) (hp:prim h base gen ts a=some (v,h')):Does P G I h w gen slot ρ (.binOp op t x y yt) v h':=by
 simp only[cOp] at hc
 split at hc
 ·rename_i x1 y1 h1 h2
  have hx:=z1j ht h1
  have hy:=z1j ht h2
  obtain⟨e,he,rfl⟩:∃ e,((w6m P op t x y=true∧e= .iface)∨eTy P t=some e)∧a= .binOp op e x1 y1:=by
   split at hc
   ·simp at hc
    exact⟨_, .inl ⟨‹_›,rfl⟩,hc.symm⟩
   ·simp only[Option.map_eq_some_iff] at hc
    obtain⟨e,h3,h4⟩:=hc
    exact⟨e, .inr h3,h4.symm⟩
  simp only[prim,Option.map_eq_some_iff,Prod.mk.injEq] at hp
  obtain⟨v',hb,rfl,rfl⟩:=hp
  intro _ _ _ _ _
  exact Step.val hg rel (w6r he hx hy hb)
 ·simp at hc
theorem v8s {op:UnOp} {t:TypeId} {x:Operand} {a:AOp} (hg:G gen=none) (rel:Rel G I h w) (ht:TR G I ts ρ) (hc:cOp P back n mu (.unOp op t x)=some a) (hp:prim h base gen ts a=some (v,h')):Does P G I h w gen slot ρ (.unOp op t x) v h':=by
 simp only[cOp,Option.map_eq_some_iff] at hc
 obtain⟨b,h1,rfl⟩:=hc
 simp only[prim,Option.map_eq_some_iff,Prod.mk.injEq] at hp
 obtain⟨v',hb,rfl,rfl⟩:=hp
 intro _ _ _ _ _
 exact Step.val hg rel (y9k (z1j ht h1) hb)
theorem j8n {s d:TypeId} {x:Operand} {a:AOp} (hg:G gen=none) (rel:Rel G I h w) (ht:TR G I ts ρ) (hc:cOp P back n mu (.convert s d x)=some a) (hp:prim h base gen ts a=some (v,h')):Does P G I h w gen slot ρ (.convert s d x) v h':=by
 simp only[cOp] at hc
 split at hc
 ·rename_i k0 k a1 hs hd h1
  simp at hc
  subst hc
  have hx:=z1j ht h1
  simp only[prim] at hp
  split at hp
  ·rename_i k1 m heq
   rw[heq] at hx
   simp at hp
   obtain⟨rfl,rfl⟩:=hp
   simp only[VR] at hx
   intro _ _ _ _ _
   refine Step.val (s:=convert s d (ρ x)) hg rel ⟨.int k (k.wrap m), ?_,by simp[VR]⟩
   simp[hx,convert,run_underlying hs,run_underlying hd,Conv.intToInt]
  ·simp at hp
 ·rename_i a1 hs hd h1
  simp at hc
  subst hc
  have hx:=z1j ht h1
  simp only[prim] at hp
  split at hp
  ·rename_i m heq
   rw[heq] at hx
   simp at hp
   obtain⟨rfl,rfl⟩:=hp
   have hx':=hx
   simp only[VR] at hx
   obtain⟨hx,_⟩:=hx
   intro _ _ _ _ _
   refine Step.val (s:=convert s d (ρ x)) hg rel ⟨ρ x, ?_,hx'⟩
   simp[hx,convert,run_underlying hs,run_underlying hd]
  ·simp at hp
 ·rename_i e a1 hs hd h1
  split at hc
  ·rename_i he
   simp at hc
   subst hc
   have hx:=z1j ht h1
   simp only[prim] at hp
   split at hp
   ·rename_i m heq
    rw[heq] at hx
    simp only[Option.some.injEq,Prod.mk.injEq] at hp
    obtain⟨rfl,rfl⟩:=hp
    intro _ _ _ _ _
    exact x8k hg rel hs hd he hx rfl
   ·simp at hp
  ·simp at hc
 ·rename_i e a1 hs hd h1
  split at hc
  ·rename_i he
   simp at hc
   subst hc
   have hx:=z1j ht h1
   simp only[prim] at hp
   split at hp
   ·simp at hp
   ·rename_i hns
    simp only[Option.map_eq_some_iff,Option.bind_eq_some_iff,Prod.mk.injEq] at hp
    obtain⟨s',⟨ys,hy,hb⟩,rfl,rfl⟩:=hp
    intro _ _ _ _ _
    exact Step.val (s:=convert s d (ρ x)) hg rel (j8m rel hs hd he hx hy hb fun s e=>hns s e)
  ·simp at hc
 ·simp at hc
theorem j8o {t:TypeId} {rsv:Option Operand} {a:AOp} (hg:G gen=none) (rel:Rel G I h w) (hc:cOp P back n mu (.makeMap t rsv)=some a) (hp:prim h base gen ts a=some (v,h')):Does P G I h w gen (base + n) ρ (.makeMap t rsv) v h':=by
 simp only[cOp] at hc
 split at hc
 ·split at hc
  ·simp at hc
   subst hc
   simp[prim] at hp
   obtain⟨rfl,rfl⟩:=hp
   intro _ _ _ _ _
   exact x8l (t:=t) hg rel rfl
  ·simp at hc
 ·simp at hc
theorem k1m {t:TypeId} {x ix:Operand} {ok:Bool} {a:AOp} (hg:G gen=none) (rel:Rel G I h w) (ht:TR G I ts ρ) (hc:cOp P back n mu (.lookup t x ix ok)=some a) (hp:prim h base gen ts a=some (v,h')):Does P G I h w gen slot ρ (.lookup t x ix ok) v h':=by
 simp only[cOp] at hc
 split at hc
 ·rename_i k e a1 i1 hu h1 h2
  split at hc
  ·rename_i kt z hk hz
   simp at hc
   subst hc
   simp only[prim] at hp
   split at hp
   ·rename_i es hes
    split at hp
    ·rename_i hself
     simp only[Option.map_eq_some_iff,Prod.mk.injEq] at hp
     obtain⟨r,hf,rfl,rfl⟩:=hp
     intro _ _ _ _ _
     exact Step.val (s:=Instr.lookup t (ρ x) (ρ ix) ok) hg rel (k1k rel hu hk hz (z1j ht h1) hes (z1j ht h2) hself hf)
    ·simp at hp
   ·simp at hp
  ·simp at hc
 ·simp at hc
theorem x8u {t:TypeId} {m k x:Operand} {a:AOp} (hg:G gen=none) (rel:Rel G I h w) (ht:TR G I ts ρ) (hc:cOp P back n mu (.mapUpdate t m k x)=some a) (hp:prim h base gen ts a=some (v,h')):Does P G I h w gen slot ρ (.mapUpdate t m k x) v h':=by
 simp only[cOp] at hc
 split at hc
 ·rename_i kty e m1 k1 x1 hu h1 h2 h3
  simp only[Option.map_eq_some_iff] at hc
  obtain⟨kt,hk,rfl⟩:=hc
  have hm:=z1j ht h1
  simp only[prim] at hp
  split at hp
  ·rename_i s g heq
   rw[heq] at hm
   split at hp
   ·rename_i es v' h1' hes hpub
    split at hp
    ·rename_i hself
     simp only[Option.map_eq_some_iff,Prod.mk.injEq] at hp
     obtain⟨es',hput,rfl,rfl⟩:=hp
     intro _ _ _ _ _
     exact j1y hg rel hu hk hm (z1j ht h2) (z1j ht h3) hes hpub hself hput rfl
    ·simp at hp
   ·simp at hp
  ·simp at hp
 ·simp at hc
theorem x8v {t:TypeId} {l c:Operand} {a:AOp} (hg:G gen=none) (rel:Rel G I h w) (ht:TR G I ts ρ) (hc:cOp P back n mu (.makeSlice t l c)=some a) (hp:prim h base gen ts a=some (v,h')):Does P G I h w gen (base + n) ρ (.makeSlice t l c) v h':=by
 simp only[cOp] at hc
 split at hc
 ·rename_i e hu
  split at hc
  ·rename_i s z b l1 c1 hs hz hb h1 h2
   split at hc
   ·rename_i hcond
    simp at hc
    subst hc
    have hl:=z1j ht h1
    have hcc:=z1j ht h2
    simp only[prim] at hp
    split at hp
    ·rename_i k1 i k2 j heq1 heq2
     rw[heq1] at hl
     rw[heq2] at hcc
     split at hp
     ·rename_i hcnd
      simp only[Option.some.injEq,Prod.mk.injEq] at hp
      obtain⟨rfl,rfl⟩:=hp
      simp only[VR] at hl hcc
      intro _ _ _ _ _
      refine x2t (kl:=k1) (kc:=k2) hg rel hu hs hz hb hcond.1 hcond.2 hcnd.2.2.2 hcnd.1 hcnd.2.1 hcnd.2.2.1 ?_
      show Sem.run P (vOf (Instr.makeSlice t (ρ l) (ρ c))) w=_
      rw[hl,hcc]
      rfl
     ·simp at hp
    ·simp at hp
   ·simp at hc
  ·simp at hc
 ·simp at hc
end
section
variable {P:Program} {G:Ghost} {I:Imm} {h:List AObj} {w:World} {gen slot:Nat}
variable {ts:Tmps} {ρ:Operand→Value} {v:AV} {h':List AObj} {n:Nat} {mu:Bool} {base:Nat} {back:Nat→Option Nat}
theorem k8e {t:TypeId} {x:Operand} {lo hi mx:Option Operand} {a:AOp} (hg:G gen=none) (rel:Rel G I h w) (ht:TR G I ts ρ) (hc:cOp P back n mu (.slice t x lo hi mx)=some a) (hp:prim h base gen ts a=some (v,h')):Does P G I h w gen slot ρ (.slice t x lo hi mx) v h':=by
 simp only[cOp] at hc
 split at hc
 ·rename_i hu
  split at hc
  ·rename_i x1 lo1 hi1 mx1 h1 h2 h3 h4
   simp at hc
   subst hc
   have hx:=z1j ht h1
   have hlo:=q3l ht h2
   have hhi:=q3l ht h3
   have hmx:=q3l ht h4
   simp only[prim,Option.map_eq_some_iff,Prod.mk.injEq] at hp
   obtain⟨v',hs,rfl,rfl⟩:=hp
   unfold z2w at hs
   split at hs
   ·rename_i s _ heq
    rw[heq] at hx
    split at hs
    ·rename_i l r hl hr hm
     split at hs
     ·rename_i hlr
      simp at hs
      subst hs
      have hmn:mx.map ρ=none:=by
       cases mx with
       | none=>rfl
       | some m=>
         simp[q8r] at h4
         obtain⟨q,_,rfl⟩:=h4
         simp at hm
      simp only[VR] at hx
      obtain⟨hx,hb⟩:=hx
      intro _ _ _ _ _
      refine Step.val (s:=Instr.sliceAt t (ρ x) (lo.map ρ) (hi.map ρ) (mx.map ρ)) hg rel ?_
      rw[hmn,hx]
      exact k1e hb hu hlo hhi hl hr hlr.1 hlr.2
     ·simp at hs
    ·simp at hs
   ·rename_i _ heq
    simp at *
   ·rename_i _ heq
    simp at *
   ·simp at hs
  ·simp at hc
 ·rename_i e hu
  split at hc
  ·rename_i sz x1 lo1 hi1 mx1 hsz h1 h2 h3 h4
   simp at hc
   subst hc
   have hx:=z1j ht h1
   have hlo:=q3l ht h2
   have hhi:=q3l ht h3
   have hmx:=q3l ht h4
   simp only[prim,Option.map_eq_some_iff,Prod.mk.injEq] at hp
   obtain⟨v',hs,rfl,rfl⟩:=hp
   unfold z2w at hs
   split at hs
   ·simp at *
   ·rename_i esz xs tp he heq
    simp at he
    subst he
    rw[heq] at hx
    split at hs
    ·rename_i l r hl hr
     split at hs
     ·rename_i hcond
      obtain⟨hlr,hrx,hh⟩:=hcond
      split at hs
      ·rename_i hm
       simp at hs
       subst hs
       have hmn:mx.map ρ=none:=by
        cases mx with
        | none=>rfl
        | some m=>
          simp[q8r] at h4
          obtain⟨q,_,rfl⟩:=h4
          simp at hm
       intro _ _ _ _ _
       refine Step.val (s:=Instr.sliceAt t (ρ x) (lo.map ρ) (hi.map ρ) (mx.map ρ)) hg rel ?_
       rw[hmn]
       refine j4w (m:=0) hx hu hsz hh hlr hrx (fun c hc=> ?_) (.inl ⟨rfl, ?_⟩)
       ·rw[if_pos rfl]
        exact q0f hlo hhi hl hr hlr (by omega)
       ·split
        ·split
         ·rename_i h;rw[h]
         ·rfl
        ·rfl
      ·rename_i m hm
       split at hs
       ·rename_i m' hbm
        split at hs
        ·rename_i hmr
         simp at hs
         subst hs
         obtain⟨rfl,hhs⟩:=hmr
         intro _ _ _ _ _
         refine Step.val (s:=Instr.sliceAt t (ρ x) (lo.map ρ) (hi.map ρ) (mx.map ρ)) hg rel ?_
         rw[hm] at hmx
         refine j4w (m:=1) hx hu hsz hh hlr hrx (fun c hc=> ?_) (.inr ⟨by omega,rfl⟩)
         rw[if_neg (by omega)]
         exact q9q (mx:=some m) hlo hhi hmx hl hr hbm (by simpa using hhs) rfl hlr (by omega)
        ·simp at hs
       ·simp at hs
     ·simp at hs
    ·simp at hs
   ·rename_i esz s g off len he heq
    simp at he
    subst he
    rw[heq] at hx
    split at hs
    ·rename_i es grow fz l r hb hl hr hm
     have hs':(l≤r∧z4s sz es=true∧(if grow then r≤len∧off + len≤es.length else off + r≤es.length))∧AV.ob s g (off + l) (r - l)=v':=by
      by_cases hcond:(l≤r∧z4s sz es=true∧(if grow then r≤len∧off + len≤es.length else off + r≤es.length))
      ·rw[if_pos hcond] at hs
       exact⟨hcond,by simpa using hs⟩
      ·rw[if_neg hcond] at hs
       simp at hs
     obtain⟨hcond,rfl⟩:=hs'
     have hmn:mx.map ρ=none:=by
      cases mx with
      | none=>rfl
      | some m=>
        simp[q8r] at h4
        obtain⟨q,_,rfl⟩:=h4
        simp at hm
     intro _ _ _ _ _
     refine Step.val (s:=Instr.sliceAt t (ρ x) (lo.map ρ) (hi.map ρ) (mx.map ρ)) hg rel ?_
     rw[hmn]
     exact k7w rel hx hu hsz hb hcond.2.1 hlo hhi hl hr hcond.1 hcond.2.2
    ·simp at hs
   ·simp at hs
  ·simp at hc
 ·simp at hc
theorem x8w {t:TypeId} {x:Operand} {f:Nat} {a:AOp} (hg:G gen=none) (rel:Rel G I h w) (ht:TR G I ts ρ) (hc:cOp P back n mu (.fieldAddr t x f)=some a) (hp:prim h base gen ts a=some (v,h')):Does P G I h w gen slot ρ (.fieldAddr t x f) v h':=by
 simp only[cOp] at hc
 split at hc
 ·rename_i o ft x1 hf h1
  split at hc
  ·rename_i m hs
   simp at hc
   subst hc
   have hx:=z1j ht h1
   simp only[prim] at hp
   split at hp
   ·rename_i s g i o' heq
    rw[heq] at hx
    simp at hp
    obtain⟨rfl,rfl⟩:=hp
    simp only[VR] at hx
    obtain⟨gi,h2,h3,h4⟩:=hx
    intro _ _ _ _ _
    refine Step.val (s:=Instr.fieldAt t (ρ x) f) hg rel ⟨_,by rw[h4];exact x3l hf hs, ?_⟩
    simp only[VR]
    exact⟨gi,h2,h3,by rw[Nat.add_assoc]⟩
   ·rename_i cs o' heq
    rw[heq] at hx
    simp at hp
    obtain⟨rfl,rfl⟩:=hp
    simp only[VR] at hx
    obtain⟨b,p,h4,h5⟩:=hx
    intro _ _ _ _ _
    refine Step.val (s:=Instr.fieldAt t (ρ x) f) hg rel ⟨_,by rw[h4];exact x3l hf hs, ?_⟩
    simp only[VR]
    exact⟨b,p,by rw[Nat.add_assoc],h5⟩
   ·simp at hp
  ·simp at hc
 ·simp at hc
theorem k8f {t:TypeId} {x:Operand} {f:Nat} {a:AOp} (hg:G gen=none) (rel:Rel G I h w) (ht:TR G I ts ρ) (hc:cOp P back n mu (.field t x f)=some a) (hp:prim h base gen ts a=some (v,h')):Does P G I h w gen slot ρ (.field t x f) v h':=by
 simp only[cOp] at hc
 split at hc
 ·rename_i o ft x1 hf h1
  simp only[Option.map_eq_some_iff] at hc
  obtain⟨l,hl,rfl⟩:=hc
  have hx:=z1j ht h1
  simp only[prim] at hp
  split at hp
  ·rename_i cs heq
   rw[heq] at hx
   simp only[Option.map_eq_some_iff,Prod.mk.injEq] at hp
   obtain⟨v',hr,rfl,rfl⟩:=hp
   intro _ _ _ _ _
   exact Step.val (s:=Instr.field t (ρ x) f) hg rel (k7v hx hf hl hr)
  ·simp at hp
 ·simp at hc
theorem x8x {t:TypeId} {x ix:Operand} {a:AOp} (hg:G gen=none) (rel:Rel G I h w) (ht:TR G I ts ρ) (hc:cOp P back n mu (.indexAddr t x ix)=some a) (hp:prim h base gen ts a=some (v,h')):Does P G I h w gen slot ρ (.indexAddr t x ix) v h':=by
 have key:∀ {arr:Option Nat} {s:Nat} {x1 i1:AOpd},z6n x=some x1→z6n ix=some i1→a= .indexAddr arr s x1 i1→((arr=none∧∃ e,P.underlying t=some (.slice e)∧sizeP P e=some s)∨∃ m e,arr=some m∧P.underlying t=some (.array m e)∧sizeP P e=some s)→
   Does P G I h w gen slot ρ (.indexAddr t x ix) v h':=by
  intro arr s x1 i1 h1 h2 ha hu
  subst ha
  have hx:=z1j ht h1
  have hi:=z1j ht h2
  simp only[prim] at hp
  split at hp
  ·rename_i k i heqi
   rw[heqi] at hi
   simp only[VR] at hi
   split at hp
   ·rename_i h0
    rcases hu with ⟨rfl,e,hu,hs⟩ | ⟨m,e,rfl,hu,hs⟩
    ·split at hp
     ·rename_i xs tp _ heq
      rw[heq] at hx
      split at hp
      ·rename_i y hy
       split at hp
       ·rename_i hl
        simp at hp
        obtain⟨rfl,rfl⟩:=hp
        intro _ _ _ _ _
        refine Step.val (s:=Instr.indexAt t (ρ x) (ρ ix)) hg rel ?_
        rw[hi]
        exact j8j hu hs hx h0 hy hl
       ·simp at hp
      ·simp at hp
     ·rename_i s' g off len _ heq
      rw[heq] at hx
      split at hp
      ·rename_i es grow fz hb
       split at hp
       ·rename_i y hy
        split at hp
        ·rename_i hl
         simp at hp
         obtain⟨rfl,rfl⟩:=hp
         intro _ _ _ _ _
         refine Step.val (s:=Instr.indexAt t (ρ x) (ρ ix)) hg rel ?_
         rw[hi]
         exact j8k rel hu hs hx hb h0 hy hl.1 hl.2
        ·simp at hp
       ·simp at hp
      ·simp at hp
     ·simp at *
     ·simp at *
     ·simp at hp
    ·split at hp
     ·simp at *
     ·simp at *
     ·rename_i m' s' g k' o he heq
      simp at he
      subst he
      rw[heq] at hx
      split at hp
      ·rename_i hlt
       simp at hp
       obtain⟨rfl,rfl⟩:=hp
       simp only[VR] at hx
       obtain⟨gi,h3,h4,h5⟩:=hx
       intro _ _ _ _ _
       refine Step.val (s:=Instr.indexAt t (ρ x) (ρ ix)) hg rel ⟨_,by rw[hi,h5];exact q9r hu hs h0 hlt, ?_⟩
       simp only[VR]
       exact⟨gi,h3,h4,by rw[Nat.add_assoc]⟩
      ·simp at hp
     ·rename_i m' cs o he heq
      simp at he
      subst he
      rw[heq] at hx
      split at hp
      ·rename_i hlt
       simp at hp
       obtain⟨rfl,rfl⟩:=hp
       simp only[VR] at hx
       obtain⟨b,p,h4,h5⟩:=hx
       intro _ _ _ _ _
       refine Step.val (s:=Instr.indexAt t (ρ x) (ρ ix)) hg rel ⟨_,by rw[hi,h4];exact q9r hu hs h0 hlt, ?_⟩
       simp only[VR]
       exact⟨b,p,by rw[Nat.add_assoc],h5⟩
      ·simp at hp
     ·simp at hp
   ·simp at hp
  ·simp at hp
 simp only[cOp] at hc
 split at hc
 ·rename_i x1 i1 h1 h2
  split at hc
  ·rename_i e hu
   split at hc
   ·rename_i s hs
    split at hc
    ·simp at hc
    ·simp at hc
     exact key h1 h2 hc.symm (.inl ⟨rfl,e,hu,hs⟩)
   ·simp at hc
  ·rename_i m e hu
   split at hc
   ·rename_i s hs
    split at hc
    ·simp at hc
    ·simp at hc
     exact key h1 h2 hc.symm (.inr ⟨m,e,rfl,hu,hs⟩)
   ·simp at hc
  ·simp at hc
 ·simp at hc
theorem k8g {t:TypeId} {x ix:Operand} {a:AOp} (hg:G gen=none) (rel:Rel G I h w) (ht:TR G I ts ρ) (hc:cOp P back n mu (.index t x ix)=some a) (hp:prim h base gen ts a=some (v,h')):Does P G I h w gen slot ρ (.index t x ix) v h':=by
 simp only[cOp] at hc
 split at hc
 ·rename_i x1 i1 h1 h2
  have hx:=z1j ht h1
  have hi:=z1j ht h2
  split at hc
  ·rename_i hu
   simp at hc
   subst hc
   simp only[prim] at hp
   split at hp
   ·rename_i k i heqi
    rw[heqi] at hi
    simp only[VR] at hi
    split at hp
    ·rename_i h0
     split at hp
     ·rename_i s _ heq
      rw[heq] at hx
      simp only[Option.map_eq_some_iff,Prod.mk.injEq] at hp
      obtain⟨b,hb,rfl,rfl⟩:=hp
      intro _ _ _ _ _
      refine Step.val (s:=Instr.index t (ρ x) (ρ ix)) hg rel ?_
      rw[hi]
      exact j1s hu hx h0 hb
     ·simp at *
     ·simp at hp
    ·simp at hp
   ·simp at hp
  ·rename_i m e hu
   split at hc
   ·rename_i s l hs hl
    split at hc
    ·simp at hc
    ·simp at hc
     subst hc
     simp only[prim] at hp
     split at hp
     ·rename_i k i heqi
      rw[heqi] at hi
      simp only[VR] at hi
      split at hp
      ·rename_i h0
       split at hp
       ·simp at *
       ·rename_i m' s' l' cs he heq
        simp at he
        obtain⟨rfl,rfl,rfl⟩:=he
        rw[heq] at hx
        split at hp
        ·rename_i hlt
         simp only[Option.map_eq_some_iff,Prod.mk.injEq] at hp
         obtain⟨v',hr,rfl,rfl⟩:=hp
         intro _ _ _ _ _
         refine Step.val (s:=Instr.index t (ρ x) (ρ ix)) hg rel ?_
         rw[hi]
         exact j1r hu hs hl hx h0 hlt hr
        ·simp at hp
       ·simp at hp
      ·simp at hp
     ·simp at hp
   ·simp at hc
  ·simp at hc
 ·simp at hc
theorem j2b {f:Fn} {first cap:Array Operand} {a:AOp} (hg:G gen=none) (rel:Rel G I h w) (ht:TR G I ts ρ) (hc:cOp P back n mu (.makeFunc f first cap)=some a) (hp:prim h base gen ts a=some (v,h')):Does P G I h w gen slot ρ (.makeFunc f first cap) v h':=by
 cases f <;> simp only[cOp] at hc <;> try (simp at hc;done)
 rename_i f
 split at hc
 ·rename_i hfirst
  simp only[Option.map_eq_some_iff] at hc
  obtain⟨xs,h1,rfl⟩:=hc
  simp[prim] at hp
  obtain⟨rfl,rfl⟩:=hp
  have hf:first= #[]:=by simpa using hfirst.1
  subst hf
  intro _ _ _ _ _
  refine Step.val (s:=Instr.makeFunc (.func f) ((#[]:Array Operand).map ρ) (cap.map ρ)) hg rel ⟨.func (.func f) #[] (cap.map ρ),by simp[Instr.makeFunc], ?_⟩
  simp only[VR,k0q hfirst.2]
  refine⟨_,rfl, ?_⟩
  have:=q8x ht h1
  simpa using this
 ·simp at hc
theorem j8p {x:Operand} {i:Nat} {a:AOp} (hg:G gen=none) (rel:Rel G I h w) (ht:TR G I ts ρ) (hc:cOp P back n mu (.extract x i)=some a) (hp:prim h base gen ts a=some (v,h')):Does P G I h w gen slot ρ (.extract x i) v h':=by
 simp only[cOp,Option.map_eq_some_iff] at hc
 obtain⟨b,h1,rfl⟩:=hc
 have hx:=z1j ht h1
 simp only[prim] at hp
 split at hp
 ·rename_i cs heq
  rw[heq] at hx
  simp only[Option.map_eq_some_iff,Prod.mk.injEq] at hp
  obtain⟨v',hr,rfl,rfl⟩:=hp
  intro _ _ _ _ _
  exact Step.val (s:=Instr.extract (ρ x) i) hg rel (j8l hx hr)
 ·simp at hp
theorem z6s {b:Builtin} {args:Array Operand} {tys:Array TypeId} {ρ:Operand→Value} {dst:Option Nat} {ty:TypeId} {pos:String} {after:Array Edge} {guard:Option (Nat×Bool)}:
 execOp ρ ⟨dst, .call ⟨.builtin b,args,tys⟩,ty,pos,after,guard⟩=builtin b tys ty (args.map fun | .const _=>true | _=>false) (args.map ρ):=rfl
theorem y9l {ρ:Operand→Value} {x:Operand}:(⟨[x]⟩:Array Operand).map ρ= #[ρ x]:=by simp
theorem y8x {ρ:Operand→Value} {x y:Operand}:(⟨[x,y]⟩:Array Operand).map ρ= #[ρ x,ρ y]:=by simp
theorem j8q {b:Builtin} {args:Array Operand} {tys:Array TypeId} {a:AOp} (hg:G gen=none) (rel:Rel G I h w) (ht:TR G I ts ρ) (hc:q5d P b args.toList tys.toList n mu=some a) (hp:prim h base gen ts a=some (v,h')):
  Does P G I h w gen (base + n) ρ (.call ⟨.builtin b,args,tys⟩) v h':=by
 obtain⟨args⟩:=args
 obtain⟨tys⟩:=tys
 simp only at hc
 unfold q5d at hc
 split at hc
 ·rename_i x t
  have key:∀ {l:LenTy} {x1:AOpd},z6n x=some x1→a= .len l x1→((P.underlying t=some .string∧l= .str)∨(∃ e,P.underlying t=some (.slice e)∧l= .sl)∨(∃ k e,P.underlying t=some (.map k e)∧l= .mp)∨(∃ n e,P.underlying t=some (.array n e)∧l= .arr n)∨
   (∃ p n e,P.underlying t=some (.pointer p)∧P.underlying p=some (.array n e)∧l= .arr n))→Does P G I h w gen (base + n) ρ (.call ⟨.builtin .len,⟨[x]⟩,⟨[t]⟩⟩) v h':=by
   intro l x1 h1 ha hu
   subst ha
   simp only[prim,Option.map_eq_some_iff,Prod.mk.injEq] at hp
   obtain⟨v',hl,rfl,rfl⟩:=hp
   intro _ ty _ _ _
   rw[z6s,y9l]
   exact Step.val (s:=Builtin.len_ #[t] ty #[ρ x]) hg rel (w6s rel (z1j ht h1) hu hl)
  split at hc
  ·rename_i hu
   simp only[Option.map_eq_some_iff] at hc
   obtain⟨x1,h1,h2⟩:=hc
   exact key h1 h2.symm (.inl ⟨hu,rfl⟩)
  ·rename_i e hu
   simp only[Option.map_eq_some_iff] at hc
   obtain⟨x1,h1,h2⟩:=hc
   exact key h1 h2.symm (.inr (.inl ⟨e,hu,rfl⟩))
  ·rename_i k e hu
   simp only[Option.map_eq_some_iff] at hc
   obtain⟨x1,h1,h2⟩:=hc
   exact key h1 h2.symm (.inr (.inr (.inl ⟨k,e,hu,rfl⟩)))
  ·rename_i m e hu
   simp only[Option.map_eq_some_iff] at hc
   obtain⟨x1,h1,h2⟩:=hc
   exact key h1 h2.symm (.inr (.inr (.inr (.inl ⟨m,e,hu,rfl⟩))))
  ·rename_i p hu
   split at hc
   ·rename_i m e hu2
    simp only[Option.map_eq_some_iff] at hc
    obtain⟨x1,h1,h2⟩:=hc
    exact key h1 h2.symm (.inr (.inr (.inr (.inr ⟨p,m,e,hu,hu2,rfl⟩))))
   ·simp at hc
  ·simp at hc
 ·rename_i x t
  split at hc
  ·rename_i e hu
   simp only[Option.map_eq_some_iff] at hc
   obtain⟨x1,h1,rfl⟩:=hc
   simp only[prim,Option.map_eq_some_iff,Prod.mk.injEq] at hp
   obtain⟨v',hl,rfl,rfl⟩:=hp
   intro _ ty _ _ _
   rw[z6s,y9l]
   exact Step.val (s:=Builtin.cap_ #[t] ty #[ρ x]) hg rel (w6t (z1j ht h1) hu hl)
  ·simp at hc
 ·rename_i x y t u
  split at hc
  ·rename_i k x1 y1 _ h1 h2
   simp at hc
   subst hc
   have hx:=z1j ht h1
   have hy:=z1j ht h2
   simp only[prim] at hp
   split at hp
   ·rename_i k1 i k2 j heq1 heq2
    rw[heq1] at hx
    rw[heq2] at hy
    simp only[VR] at hx hy
    simp only[Option.some.injEq,Prod.mk.injEq] at hp
    obtain⟨rfl,rfl⟩:=hp
    intro _ ty _ _ _
    rw[z6s,y8x,hx,hy]
    have:=x8j (P:=P) (w:=w) (mx:=true) (k:=k1) (j:=k2) (a:=i) (b:=j) (tys:= #[t,u]) (ty:=ty)
    exact Step.val (s:=Builtin.max_ #[t,u] ty #[.int k1 i, .int k2 j]) hg rel ⟨_,this,by simp[VR]⟩
   ·simp at hp
  ·simp at hc
 ·rename_i x y t u
  split at hc
  ·rename_i k x1 y1 _ h1 h2
   simp at hc
   subst hc
   have hx:=z1j ht h1
   have hy:=z1j ht h2
   simp only[prim] at hp
   split at hp
   ·rename_i k1 i k2 j heq1 heq2
    rw[heq1] at hx
    rw[heq2] at hy
    simp only[VR] at hx hy
    simp only[Option.some.injEq,Prod.mk.injEq] at hp
    obtain⟨rfl,rfl⟩:=hp
    intro _ ty _ _ _
    rw[z6s,y8x,hx,hy]
    have:=x8j (P:=P) (w:=w) (mx:=false) (k:=k1) (j:=k2) (a:=i) (b:=j) (tys:= #[t,u]) (ty:=ty)
    exact Step.val (s:=Builtin.min_ #[t,u] ty #[.int k1 i, .int k2 j]) hg rel ⟨_,this,by simp[VR]⟩
   ·simp at hp
  ·simp at hc
 ·rename_i x y t u
  have key:∀ {e:TypeId},P.underlying t=some (.slice e)→((∃ e',P.underlying u=some (.slice e'))∨P.underlying u=some .string)→
    (match sizeP P e,bytesP P e,zeroP P e,z6n x,z6n y with
     | some sz,some by_,some z,some a,some b=>if sz≠0∧z.cells.length=sz then some (AOp.append n sz by_ mu a b) else none
     | _,_,_,_,_=>none)=some a→Does P G I h w gen (base + n) ρ (.call ⟨.builtin .append,⟨[x,y]⟩,⟨[t,u]⟩⟩) v h':=by
   intro e hu hk hc
   split at hc
   ·rename_i sz by_ z x1 y1 hs hb hz h1 h2
    split at hc
    ·rename_i hcond
     simp at hc
     subst hc
     simp only[prim] at hp
     intro _ ty _ _ _
     rw[z6s,y8x]
     exact j1w (P:=P) (t:=t) (tx:=u) (ty:=ty) (e:=e) ⟨hu,hk,hs,hb,hz,hcond.2,by have:=hcond.1;omega⟩ hg rel (z1j ht h1) (z1j ht h2) hp rfl
    ·simp at hc
   ·simp at hc
  split at hc
  ·rename_i e _ hu hu2
   exact key hu (.inl ⟨_,hu2⟩) hc
  ·rename_i e hu hu2
   exact key hu (.inr hu2) hc
  ·rename_i e k hu hu2
   split at hc
   ·rename_i sz by_ z x1 y1 hs hb hz h1 h2
    split at hc
    ·rename_i hcond
     simp at hc
     subst hc
     have hx:=z1j ht h1
     have hy:=z1j ht h2
     simp only[prim] at hp
     split at hp
     ·rename_i j m heq1 heq2
      rw[heq1] at hx
      rw[heq2] at hy
      simp only[VR] at hx hy
      obtain⟨A,n',c,hx,hn',_,htip,_⟩:=hx
      simp only[TipR] at htip
      obtain⟨rfl,_,rfl⟩:=htip
      simp only[List.length_nil] at hn'
      subst hn'
      intro _ ty _ _ _
      rw[z6s,y8x,hx,hy]
      split at hp
      ·rename_i hm
       simp only[Option.some.injEq,Prod.mk.injEq] at hp
       obtain⟨rfl,rfl⟩:=hp
       subst hm
       refine Step.val (s:=Builtin.append_ #[t,u] ty #[.slice none 0 0, .int j 0]) hg rel ⟨.slice none 0 0, ?_, ?_⟩
       ·obtain⟨ti,zv,hi,hzv,_⟩:=z9u (G:=G) (I:=I) hz
        have hw0:IntKind.i64.wrap 0=0:=IntWalk.i64_in _ (by omega)
        simp[Builtin.append_,run_underlying hu,run_underlying hu2,sizeOf,typeInfo,hi,asInt,asIntOf,hw0]
       ·simp only[VR]
        exact⟨none,0,0,rfl,rfl,Nat.le_refl _,⟨rfl,rfl,rfl⟩, .inl rfl⟩
      ·split at hp
       ·rename_i hm
        simp only[Option.some.injEq,Prod.mk.injEq] at hp
        obtain⟨rfl,rfl⟩:=hp
        obtain⟨hm0,hroom,hzd⟩:=hm
        obtain⟨q,rfl⟩:∃ q:Nat,m=q:=⟨m.toNat,by omega⟩
        rw[Int.toNat_natCast]
        exact j1u (t:=t) (tx:=u) (ty:=ty) (j:=j) hu hu2 hs hb hz hcond.2 hzd (by have:=hcond.1;omega) hg rel (by omega) (by
         have:((q * (by_ + 1):Nat):Int)≤(z1g:Int):=by
          rw[Int.natCast_mul]
          exact hroom
         omega) rfl
       ·simp at hp
     ·simp at hp
    ·simp at hc
   ·simp at hc
  ·simp at hc
 ·simp at hc
def AOp.plain:AOp→Bool
 | .call .. | .callv .. | .backward .. =>false
 | _=>true
theorem v8t {op:Op} {a:AOp} (hg:G gen=none) (rel:Rel G I h w) (ht:TR G I ts ρ) (hc:cOp P back n mu op=some a) (hpl:a.plain=true) (hp:prim h base gen ts a=some (v,h')):Does P G I h w gen (base + n) ρ op v h':=by
 cases op with
 | move x=>exact (k1l hg rel ht (by simpa only[cOp] using hc) hp).1
 | assign x=>exact (k1l hg rel ht (by simpa only[cOp] using hc) hp).2
 | pick c x y=>exact v8q hg rel ht hc hp
 | alloc t=>exact k8a hg rel hc hp
 | box t x=>exact w6u hg rel ht hc hp
 | build t ps=>exact k8b hg rel ht hc hp
 | buildSlice t m ps=>exact x5p hg rel ht hc hp
 | load t x=>exact v8r hg rel ht hc hp
 | store t x y=>exact k8c hg rel ht hc hp
 | nilCheck x=>exact j2a hg rel ht hc hp
 | binOp op t x y yt=>exact k8d hg rel ht hc hp
 | unOp op t x=>exact v8s hg rel ht hc hp
 | convert s d x=>exact j8n hg rel ht hc hp
 | makeFunc f a b=>exact j2b hg rel ht hc hp
 | makeMap t r=>exact j8o hg rel hc hp
 | makeSlice t l c=>exact x8v hg rel ht hc hp
 | slice t x lo hi mx=>exact k8e hg rel ht hc hp
 | fieldAddr t x f=>exact x8w hg rel ht hc hp
 | field t x f=>exact k8f hg rel ht hc hp
 | indexAddr t x ix=>exact x8x hg rel ht hc hp
 | index t x ix=>exact k8g hg rel ht hc hp
 | lookup t x ix ok=>exact k1m hg rel ht hc hp
 | mapUpdate t m k x=>exact x8u hg rel ht hc hp
 | extract x i=>exact j8p hg rel ht hc hp
 | call c=>
   obtain⟨callee,args,tys⟩:=c
   cases callee with
   | builtin b=>exact j8q hg rel ht (by simpa only[cOp] using hc) hp
   | invoke r m=>simp[cOp] at hc
   | value f=>
     cases f with
     | tmp t=>
       simp only[cOp,Option.map_eq_some_iff] at hc
       obtain⟨xs,_,rfl⟩:=hc
       simp[AOp.plain] at hpl
     | func f=>
       simp only[cOp] at hc
       split at hc
       ·split at hc
        ·simp only[Option.map_eq_some_iff] at hc
         obtain⟨xs,_,rfl⟩:=hc
         simp[AOp.plain] at hpl
        ·simp at hc
       ·split at hc
        ·simp only[Option.map_eq_some_iff] at hc
         obtain⟨xs,_,rfl⟩:=hc
         simp[AOp.plain] at hpl
        ·simp at hc
     | const v=>simp[cOp] at hc
     | global g=>simp[cOp] at hc
 | _=>simp[cOp] at hc
end
section
def j2c (G G':Ghost) (n:Nat):Prop:=∀ g i,G g=some i→i.slot < n→G' g=some i
theorem q5h {v:AV}:∀ {vs:List AV},v∈vs→∀ s∈v.ids,s∈idsL vs
 | [],hv,_,_=>by simp at hv
 | x::xs,hv,s,hs=>by
   simp only[idsL,List.mem_append]
   rcases List.mem_cons.1 hv with rfl | hv
   ·exact .inl hs
   ·exact .inr (q5h hv s hs)
mutual
theorem VR.keep {G G':Ghost} {I:Imm} {n:Nat} (hk:j2c G G' n):∀ {x:AV} {v:Value},(∀ s∈x.ids,s < n)→VR G I x v→VR G' I x v
 | .undef,_,_,_=>by simp[VR]
 | .int ..,_,_,h=>by simpa [VR] using h
 | .bool _,_,_,h=>by simpa [VR] using h
 | .str _,_,_,h=>by simpa only[VR] using h
 | .agg _,_,hi,h=>by
   simp only[VR] at h⊢
   obtain⟨vs,rfl,h⟩:=h
   exact⟨vs,rfl,VRL.keep hk (by simpa only[AV.ids] using hi) h⟩
 | .tup _,_,hi,h=>by
   simp only[VR] at h⊢
   obtain⟨vs,rfl,h⟩:=h
   exact⟨vs,rfl,VRL.keep hk (by simpa only[AV.ids] using hi) h⟩
 | .sl xs t,_,hi,h=>by
   simp only[VR] at h⊢
   obtain⟨A,m,c,rfl,h1,h2,h3,h4⟩:=h
   refine⟨A,m,c,rfl,h1,h2, ?_, ?_⟩
   ·cases t with
    | «at» s g=>
      obtain⟨i,g1,g2,g3⟩:=h3
      exact⟨i,hk g i g1 (by rw[g2];exact hi s (by simp[AV.ids])),g2,g3⟩
    | no=>exact h3
    | full=>exact h3
    | nil=>exact h3
    | nn=>exact h3
   ·rcases h4 with h4 | ⟨b,o,e,h5,h6,h7⟩
    ·exact .inl h4
    ·exact .inr ⟨b,o,e,h5,h6,RowI.keep hk (fun s hs=>hi s (by simp only[AV.ids,List.mem_append];exact .inr hs)) h7⟩
 | .ob s ..,_,hi,h=>by
   simp only[VR] at h⊢
   obtain⟨i,A,c,h1,h2,h3⟩:=h
   exact⟨i,A,c,hk _ i h1 (by rw[h2];exact hi s (by simp[AV.ids])),h2,h3⟩
 | .ptr s ..,_,hi,h=>by
   simp only[VR] at h⊢
   obtain⟨i,h1,h2,h3⟩:=h
   exact⟨i,hk _ i h1 (by rw[h2];exact hi s (by simp[AV.ids])),h2,h3⟩
 | .iptr _ _,_,hi,h=>by
   simp only[VR] at h⊢
   obtain⟨b,p,rfl,h⟩:=h
   exact⟨b,p,rfl,CellsI.keep hk (by simpa only[AV.ids] using hi) h⟩
 | .nilptr,_,_,h=>by simpa [VR] using h
 | .mp s _,_,hi,h=>by
   simp only[VR] at h⊢
   obtain⟨i,h1,h2,h3⟩:=h
   exact⟨i,hk _ i h1 (by rw[h2];exact hi s (by simp[AV.ids])),h2,h3⟩
 | .nilmap,_,_,h=>by simpa [VR] using h
 | .fn _ _,_,hi,h=>by
   simp only[VR] at h⊢
   obtain⟨vs,rfl,h⟩:=h
   exact⟨vs,rfl,VRL.keep hk (by simpa only[AV.ids] using hi) h⟩
 | .nilfn,_,_,h=>by simpa [VR] using h
 | .nilif,_,_,h=>by simpa [VR] using h
 | .bwd _ _,_,hi,h=>by
   simp only[VR] at h⊢
   obtain⟨b,y,rfl,h1,h2⟩:=h
   exact⟨b,y,rfl,h1,VR.keep hk (by simpa only[AV.ids] using hi) h2⟩
theorem VRL.keep {G G':Ghost} {I:Imm} {n:Nat} (hk:j2c G G' n):∀ {xs:List AV} {vs:List Value},(∀ s∈idsL xs,s < n)→VRL G I xs vs→VRL G' I xs vs
 | [],_,_,h=>by simpa [VRL] using h
 | _::_,_,hi,h=>by
   simp only[VRL] at h⊢
   obtain⟨v,ws,rfl,h1,h2⟩:=h
   exact⟨v,ws,rfl,VR.keep hk (fun s hs=>hi s (by simp only[idsL,List.mem_append];exact .inl hs)) h1,VRL.keep hk (fun s hs=>hi s (by simp only[idsL,List.mem_append];exact .inr hs)) h2⟩
theorem RowI.keep {G G':Ghost} {I:Imm} {n:Nat} (hk:j2c G G' n):∀ {xs:List AV} {b o e:Nat},(∀ s∈idsL xs,s < n)→RowI G I xs b o e→RowI G' I xs b o e
 | [],_,_,_,_,_=>j4r
 | .agg _::_,_,_,_,hi,h=>by
   simp only[RowI] at h⊢
   exact⟨h.1,CellsI.keep hk (fun s hs=>hi s (by simp only[idsL,AV.ids,List.mem_append];exact .inl hs)) h.2.1,RowI.keep hk (fun s hs=>hi s (by simp only[idsL,List.mem_append];exact .inr hs)) h.2.2⟩
 | .undef::_,_,_,_,hi,h=>by
   simp only[RowI] at h⊢
   obtain⟨h1,⟨v,h2,h3⟩,h4⟩:=h
   exact⟨h1,⟨v,h2,VR.keep hk (fun s hs=>hi s (by simp only[idsL,List.mem_append];exact .inl hs)) h3⟩,RowI.keep hk (fun s hs=>hi s (by simp only[idsL,List.mem_append];exact .inr hs)) h4⟩
 | .int .. ::_,_,_,_,hi,h=>by
   simp only[RowI] at h⊢
   obtain⟨h1,⟨v,h2,h3⟩,h4⟩:=h
   exact⟨h1,⟨v,h2,VR.keep hk (fun s hs=>hi s (by simp only[idsL,List.mem_append];exact .inl hs)) h3⟩,RowI.keep hk (fun s hs=>hi s (by simp only[idsL,List.mem_append];exact .inr hs)) h4⟩
 | .bool _::_,_,_,_,hi,h=>by
   simp only[RowI] at h⊢
   obtain⟨h1,⟨v,h2,h3⟩,h4⟩:=h
   exact⟨h1,⟨v,h2,VR.keep hk (fun s hs=>hi s (by simp only[idsL,List.mem_append];exact .inl hs)) h3⟩,RowI.keep hk (fun s hs=>hi s (by simp only[idsL,List.mem_append];exact .inr hs)) h4⟩
 | .str _::_,_,_,_,hi,h=>by
   simp only[RowI] at h⊢
   obtain⟨h1,⟨v,h2,h3⟩,h4⟩:=h
   exact⟨h1,⟨v,h2,VR.keep hk (fun s hs=>hi s (by simp only[idsL,List.mem_append];exact .inl hs)) h3⟩,RowI.keep hk (fun s hs=>hi s (by simp only[idsL,List.mem_append];exact .inr hs)) h4⟩
 | .tup _::_,_,_,_,hi,h=>by
   simp only[RowI] at h⊢
   obtain⟨h1,⟨v,h2,h3⟩,h4⟩:=h
   exact⟨h1,⟨v,h2,VR.keep hk (fun s hs=>hi s (by simp only[idsL,List.mem_append];exact .inl hs)) h3⟩,RowI.keep hk (fun s hs=>hi s (by simp only[idsL,List.mem_append];exact .inr hs)) h4⟩
 | .sl _ _::_,_,_,_,hi,h=>by
   simp only[RowI] at h⊢
   obtain⟨h1,⟨v,h2,h3⟩,h4⟩:=h
   exact⟨h1,⟨v,h2,VR.keep hk (fun s hs=>hi s (by simp only[idsL,List.mem_append];exact .inl hs)) h3⟩,RowI.keep hk (fun s hs=>hi s (by simp only[idsL,List.mem_append];exact .inr hs)) h4⟩
 | .ob .. ::_,_,_,_,hi,h=>by
   simp only[RowI] at h⊢
   obtain⟨h1,⟨v,h2,h3⟩,h4⟩:=h
   exact⟨h1,⟨v,h2,VR.keep hk (fun s hs=>hi s (by simp only[idsL,List.mem_append];exact .inl hs)) h3⟩,RowI.keep hk (fun s hs=>hi s (by simp only[idsL,List.mem_append];exact .inr hs)) h4⟩
 | .ptr .. ::_,_,_,_,hi,h=>by
   simp only[RowI] at h⊢
   obtain⟨h1,⟨v,h2,h3⟩,h4⟩:=h
   exact⟨h1,⟨v,h2,VR.keep hk (fun s hs=>hi s (by simp only[idsL,List.mem_append];exact .inl hs)) h3⟩,RowI.keep hk (fun s hs=>hi s (by simp only[idsL,List.mem_append];exact .inr hs)) h4⟩
 | .iptr _ _::_,_,_,_,hi,h=>by
   simp only[RowI] at h⊢
   obtain⟨h1,⟨v,h2,h3⟩,h4⟩:=h
   exact⟨h1,⟨v,h2,VR.keep hk (fun s hs=>hi s (by simp only[idsL,List.mem_append];exact .inl hs)) h3⟩,RowI.keep hk (fun s hs=>hi s (by simp only[idsL,List.mem_append];exact .inr hs)) h4⟩
 | .nilptr::_,_,_,_,hi,h=>by
   simp only[RowI] at h⊢
   obtain⟨h1,⟨v,h2,h3⟩,h4⟩:=h
   exact⟨h1,⟨v,h2,VR.keep hk (fun s hs=>hi s (by simp only[idsL,List.mem_append];exact .inl hs)) h3⟩,RowI.keep hk (fun s hs=>hi s (by simp only[idsL,List.mem_append];exact .inr hs)) h4⟩
 | .mp .. ::_,_,_,_,hi,h=>by
   simp only[RowI] at h⊢
   obtain⟨h1,⟨v,h2,h3⟩,h4⟩:=h
   exact⟨h1,⟨v,h2,VR.keep hk (fun s hs=>hi s (by simp only[idsL,List.mem_append];exact .inl hs)) h3⟩,RowI.keep hk (fun s hs=>hi s (by simp only[idsL,List.mem_append];exact .inr hs)) h4⟩
 | .nilmap::_,_,_,_,hi,h=>by
   simp only[RowI] at h⊢
   obtain⟨h1,⟨v,h2,h3⟩,h4⟩:=h
   exact⟨h1,⟨v,h2,VR.keep hk (fun s hs=>hi s (by simp only[idsL,List.mem_append];exact .inl hs)) h3⟩,RowI.keep hk (fun s hs=>hi s (by simp only[idsL,List.mem_append];exact .inr hs)) h4⟩
 | .fn _ _::_,_,_,_,hi,h=>by
   simp only[RowI] at h⊢
   obtain⟨h1,⟨v,h2,h3⟩,h4⟩:=h
   exact⟨h1,⟨v,h2,VR.keep hk (fun s hs=>hi s (by simp only[idsL,List.mem_append];exact .inl hs)) h3⟩,RowI.keep hk (fun s hs=>hi s (by simp only[idsL,List.mem_append];exact .inr hs)) h4⟩
 | .nilfn::_,_,_,_,hi,h=>by
   simp only[RowI] at h⊢
   obtain⟨h1,⟨v,h2,h3⟩,h4⟩:=h
   exact⟨h1,⟨v,h2,VR.keep hk (fun s hs=>hi s (by simp only[idsL,List.mem_append];exact .inl hs)) h3⟩,RowI.keep hk (fun s hs=>hi s (by simp only[idsL,List.mem_append];exact .inr hs)) h4⟩
 | .nilif::_,_,_,_,hi,h=>by
   simp only[RowI] at h⊢
   obtain⟨h1,⟨v,h2,h3⟩,h4⟩:=h
   exact⟨h1,⟨v,h2,VR.keep hk (fun s hs=>hi s (by simp only[idsL,List.mem_append];exact .inl hs)) h3⟩,RowI.keep hk (fun s hs=>hi s (by simp only[idsL,List.mem_append];exact .inr hs)) h4⟩
 | .bwd _ _::_,_,_,_,hi,h=>by
   simp only[RowI] at h⊢
   obtain⟨h1,⟨v,h2,h3⟩,h4⟩:=h
   exact⟨h1,⟨v,h2,VR.keep hk (fun s hs=>hi s (by simp only[idsL,List.mem_append];exact .inl hs)) h3⟩,RowI.keep hk (fun s hs=>hi s (by simp only[idsL,List.mem_append];exact .inr hs)) h4⟩
theorem CellsI.keep {G G':Ghost} {I:Imm} {n:Nat} (hk:j2c G G' n):∀ {cs:List AV} {b o:Nat},(∀ s∈idsL cs,s < n)→CellsI G I cs b o→CellsI G' I cs b o
 | [],_,_,_,_=>q3k
 | _::_,_,_,hi,h=>by
   simp only[CellsI] at h⊢
   obtain⟨⟨v,h1,h2⟩,h3⟩:=h
   exact⟨⟨v,h1,VR.keep hk (fun s hs=>hi s (by simp only[idsL,List.mem_append];exact .inl hs)) h2⟩,CellsI.keep hk (fun s hs=>hi s (by simp only[idsL,List.mem_append];exact .inr hs)) h3⟩
end
mutual
theorem VR.flat {G G':Ghost} {I I':Imm}:∀ {x:AV} {v:Value},x.flat=true→VR G I x v→VR G' I' x v
 | .undef,_,_,_=>by simp[VR]
 | .int ..,_,_,h=>by simpa [VR] using h
 | .bool _,_,_,h=>by simpa [VR] using h
 | .str _,_,_,h=>by simpa only[VR] using h
 | .agg _,_,hi,h=>by
   simp only[VR] at h⊢
   obtain⟨vs,rfl,h⟩:=h
   exact⟨vs,rfl,VRL.flat (by simpa only[AV.flat] using hi) h⟩
 | .tup _,_,hi,h=>by
   simp only[VR] at h⊢
   obtain⟨vs,rfl,h⟩:=h
   exact⟨vs,rfl,VRL.flat (by simpa only[AV.flat] using hi) h⟩
 | .sl _ _,_,hi,_=>by simp[AV.flat] at hi
 | .ob ..,_,hi,_=>by simp[AV.flat] at hi
 | .ptr ..,_,hi,_=>by simp[AV.flat] at hi
 | .iptr _ _,_,hi,_=>by simp[AV.flat] at hi
 | .nilptr,_,hi,_=>by simp[AV.flat] at hi
 | .mp ..,_,hi,_=>by simp[AV.flat] at hi
 | .nilmap,_,hi,_=>by simp[AV.flat] at hi
 | .fn _ _,_,hi,_=>by simp[AV.flat] at hi
 | .nilfn,_,hi,_=>by simp[AV.flat] at hi
 | .nilif,_,hi,_=>by simp[AV.flat] at hi
 | .bwd _ _,_,hi,_=>by simp[AV.flat] at hi
theorem VRL.flat {G G':Ghost} {I I':Imm}:∀ {xs:List AV} {vs:List Value},j1l xs=true→VRL G I xs vs→VRL G' I' xs vs
 | [],_,_,h=>by simpa [VRL] using h
 | _::_,_,hi,h=>by
   simp only[j1l,Bool.and_eq_true] at hi
   simp only[VRL] at h⊢
   obtain⟨v,ws,rfl,h1,h2⟩:=h
   exact⟨v,ws,rfl,VR.flat hi.1 h1,VRL.flat hi.2 h2⟩
end
section
variable {P:Program} {G:Ghost} {I:Imm} {h:List AObj} {w:World}
theorem x5q {x:AV} {s:Nat} {c:AV} (hc:c∈x.cells) (hs:s∈c.ids):s∈x.ids:=by
 by_cases ha:∃ cs,x= .agg cs
 ·obtain⟨cs,rfl⟩:=ha
  simp only[AV.cells] at hc
  simp only[AV.ids]
  exact q5h hc s hs
 ·rw[z7u fun cs e=>ha ⟨cs,e⟩] at hc
  simp at hc
  subst hc
  exact hs
theorem ObjR.keep {G':Ghost} {n s:Nat} {o:AObj} (hk:j2c G G' n) (hs:s < n) (hi:∀ k∈o.ids,k < n) (ho:ObjR G I w s o):ObjR G' I w s o:=by
 cases o with
 | dead=>trivial
 | blk g es row grow fz=>
   obtain⟨i,cs,t,h1,h2,h3,h4,h5,h6,h7,h8,h9,h10⟩:=ho
   refine⟨i,cs,t,hk g i h1 (by omega),h2,h3,h4,h5,h6,h7,h8,fun k x hx=>⟨(h9 k x hx).1,fun j c hj=> ?_⟩,h10⟩
   obtain⟨v,hv,hr⟩:=(h9 k x hx).2 j c hj
   exact⟨v,hv,VR.keep hk (fun q hq=>hi q (by simp only[AObj.ids];exact q5h (List.mem_of_getElem? hx) q (x5q (List.mem_of_getElem? hj) hq))) hr⟩
 | tip g e=>
   obtain⟨i,h1,h2,h3⟩:=ho
   exact⟨i,hk g i h1 (by omega),h2,h3⟩
 | map g es=>
   obtain⟨i,ents,clk,h1,h2,h3,h4⟩:=ho
   refine⟨i,ents,clk,hk g i h1 (by omega),h2,h3, ?_⟩
   obtain⟨hl,hg⟩:=x5o h4
   refine j1x hl fun j x e hx he=> ?_
   obtain⟨e',he',hr1,hr2⟩:=hg j x hx
   rw[he] at he'
   simp at he'
   subst he'
   have hm:=List.mem_of_getElem? hx
   refine⟨VR.keep hk (fun q hq=>hi q ?_) hr1,VR.keep hk (fun q hq=>hi q ?_) hr2⟩
   ·simp only[AObj.ids,List.mem_append]
    exact .inl (q5h (List.mem_map.2 ⟨x,hm,rfl⟩) q hq)
   ·simp only[AObj.ids,List.mem_append]
    exact .inr (q5h (List.mem_map.2 ⟨x,hm,rfl⟩) q hq)
structure Ran (base clk:Nat) (G:Ghost) (I:Imm) (h:List AObj) (w:World) (G':Ghost) (I':Imm) (h':List AObj) (w':World):Prop where
 rel:Rel G' I' h' w'
 gle:GLe G G'
 ile:ILe I I'
 slots:∀ g i,G' g=some i→G g=none→clk≤g∧base≤i.slot
 own:OwnLe G h w G' h'
 fr:Fr G h w w'
 ifr:IFr G h w I I'
theorem Ran.refl {base clk:Nat} (rel:Rel G I h w):Ran base clk G I h w G I h w:=
 ⟨rel,GLe.refl _,ILe.refl _,fun g i h1 h2=>by simp[h1] at h2,OwnLe.refl _ _ _,Fr.refl _ _ _,IFr.refl⟩
theorem Ran.trans {base base' clk clk':Nat} {G' G'':Ghost} {I' I'':Imm} {h' h'':List AObj} {w' w'':World} (a:Ran base clk G I h w G' I' h' w') (b:Ran base' clk' G' I' h' w' G'' I'' h'' w'') (hb:base≤base') (hc:clk≤clk'):
  Ran base clk G I h w G'' I'' h'' w'':=
 ⟨b.rel,a.gle.trans b.gle,a.ile.trans b.ile,fun g i h1 h2=>by
  cases hg:G' g with
  | none=>
    have:=b.slots g i h1 hg
    omega
  | some j=>
    have h3:=b.gle g j hg
    rw[h1] at h3
    simp at h3
    subst h3
    exact a.slots g i hg h2,
  a.own.trans a.fr.size b.own,a.fr.trans a.own b.fr,a.ifr.trans a.own a.fr.size b.ifr⟩
theorem Rel.part {h':List AObj} (rel:Rel G I h w) (hs:∀ (i:Nat) o,h'[i]? =some o→o= .dead∨h[i]? =some o):Rel G I h' w:=by
 refine⟨rel.imm,fun i o ho=> ?_,fun i j oi oj b hi hj h1 h2=> ?_⟩
 ·rcases hs i o ho with rfl | ho
  ·trivial
  ·exact rel.obj i o ho
 ·rcases hs i oi hi with rfl | hi
  ·simp[Am.own] at h1
  ·rcases hs j oj hj with rfl | hj
   ·simp[Am.own] at h2
   ·exact rel.inj i j oi oj b hi hj h1 h2
theorem z9v {T:List Nat}:∀ {h:List AObj} {k i:Nat},(maskFrom T k h)[i]? =(h[i]?).map fun o=>if T.contains (k + i) then o else .dead
 | [],k,i=>by simp[maskFrom]
 | o::h,k,i=>by
   cases i with
   | zero=>simp[maskFrom]
   | succ i=>
     simp only[maskFrom,List.getElem?_cons_succ,z9v]
     rw[show k + 1 + i=k + (i + 1) by omega]
theorem z9b {T:List Nat}:∀ {h:List AObj} {k:Nat},(maskFrom T k h).length=h.length
 | [],_=>rfl
 | o::h,k=>by simp[maskFrom,z9b]
theorem q5i {T:List Nat}:∀ {h h':List AObj} {k i:Nat},h.length≤h'.length→i < h.length→(z0t T k h h')[i]? =if T.contains (k + i) then h'[i]? else h[i]?
 | [],_,_,_,_,hi=>by simp at hi
 | o::h,[],_,_,hl,_=>by simp at hl
 | o::h,o'::h',k,i,hl,hi=>by
   cases i with
   | zero=>
     simp only[z0t,List.getElem?_cons_zero,Nat.add_zero]
     split <;> rfl
   | succ i=>
     simp only[z0t,List.getElem?_cons_succ]
     rw[q5i (by simpa using hl) (by simpa using hi),show k + 1 + i=k + (i + 1) by omega]
theorem z6m {T:List Nat}:∀ {h h':List AObj} {k:Nat},h.length≤h'.length→(z0t T k h h').length=h.length
 | [],[],_,_=>rfl
 | [],_::_,_,_=>rfl
 | o::h,[],_,hl=>by simp at hl
 | o::h,o'::h',k,hl=>by simp[z0t,z6m (show h.length≤h'.length by simpa using hl)]
theorem q1m {byref:List Nat}:∀ {vs vs':List AV} {cvs:List Value} {k:Nat} {G:Ghost} {I:Imm} {h h1:List AObj} {w:World},z1v h byref k vs=some vs'→VRL G I vs cvs→Frozen h h1→Rel G I h1 w→
  ∃ I',ILe I I'∧Rel G I' (freezeAll h1 (z0u byref k vs)) w∧VRL G I' vs' cvs∧NoNew G h1 I I'
 | [],_,_,_,G,I,h,h1,w,hc,hv,hf,rel=>by
   simp only[z1v,Option.some.injEq] at hc
   subst hc
   exact⟨I,ILe.refl _,by simpa only[z0u,freezeAll] using rel,hv,NoNew.refl⟩
 | v::vs,_,_,k,G,I,h,h1,w,hc,hv,hf,rel=>by
   simp only[z1v] at hc
   split at hc
   ·rename_i a b ha hb
    simp at hc
    subst hc
    simp only[VRL] at hv
    obtain⟨cv,cvs,rfl,hv1,hv2⟩:=hv
    by_cases hr:byref.contains k=true
    ·simp only[hr,if_true,Option.some.injEq] at ha
     subst ha
     obtain⟨I2,hI2,r2,hxs,hn2⟩:=q1m hb hv2 hf rel
     refine⟨I2,hI2, ?_, ?_,hn2⟩
     ·simp only[z0u,hr,if_true,List.nil_append]
      exact r2
     ·simp only[VRL]
      exact⟨cv,cvs,rfl,VR.mono (GLe.refl _) hI2 hv1,hxs⟩
    ·have hr:byref.contains k=false:=by simpa using hr
     simp only[hr,Bool.false_eq_true,if_false] at ha
     obtain⟨I1,hI1,r1,hx,hn1⟩:=q9n ha hv1 hf rel
     obtain⟨I2,hI2,r2,hxs,hn2⟩:=q1m hb (VRL.mono (GLe.refl _) hI1 hv2) (hf.trans (z2e _ _)) r1
     refine⟨I2,hI1.trans hI2, ?_, ?_,fun b hb o v hv=>hn1 b hb o v (hn2 b (fun i x hi hx=>by
      obtain⟨o',h2,h3⟩:=q6r (z2e _ _) hi hx
      exact hb i o' h2 h3) o v hv)⟩
     ·simp only[z0u,hr,Bool.false_eq_true,if_false,z3y]
      exact r2
     ·simp only[VRL]
      exact⟨cv,cvs,rfl,VR.mono (GLe.refl _) hI2 hx,hxs⟩
   ·simp at hc
end
end
section
variable {P:Program} {G:Ghost} {I:Imm} {h:List AObj} {w:World}
structure Left (T:List Nat) (n clk:Nat) (G:Ghost) (I:Imm) (h:List AObj) (w:World) (I1:Imm) (hf:List AObj) (G':Ghost) (I':Imm) (s:List AObj) (I2:Imm) (hr:List AObj) (w':World):Prop where
 frz:Frozen h hf
 rel1:Rel G I1 hf w
 le1:ILe I I1
 new1:NoNew G h I I1
 ran:Ran h.length clk G I1 (maskFrom T 0 hf++List.replicate n .dead) w G' I' s w'
 len:h.length≤s.length
 frz2:Frozen s hr
 rel2:Rel G' I2 hr w'
 le2:ILe I' I2
 new2:NoNew G' s I' I2
variable {T:List Nat} {n clk:Nat} {I1 I' I2:Imm} {hf s hr:List AObj} {G':Ghost} {w':World}
theorem x8y {i:Nat} {o:AObj} (hi:(maskFrom T 0 hf++List.replicate n .dead)[i]? =some o):o= .dead∨(T.contains i=true∧hf[i]? =some o):=by
 rw[List.getElem?_append] at hi
 split at hi
 ·rw[z9v] at hi
  simp only[Nat.zero_add,Option.map_eq_some_iff] at hi
  obtain⟨o',h1,h2⟩:=hi
  split at h2
  ·rename_i ht
   subst h2
   exact .inr ⟨ht,h1⟩
  ·exact .inl h2.symm
 ·left
  have:=List.mem_of_getElem? hi
  exact (List.mem_replicate.1 this).2
theorem k8h (rel1:Rel G I1 hf w):Rel G I1 (maskFrom T 0 hf++List.replicate n .dead) w:=
 rel1.part fun _ _ hi=>(x8y hi).imp id And.right
namespace Left
variable (l:Left T n clk G I h w I1 hf G' I' s I2 hr w')
include l
theorem maskOwner {i b:Nat} {o:AObj} (hi:(maskFrom T 0 hf++List.replicate n .dead)[i]? =some o) (hb:Am.own G o=some b):T.contains i=true∧hf[i]? =some o:=by
 have _:=l
 rcases x8y hi with rfl | h
 ·simp[Am.own] at hb
 ·exact h
theorem hOwner {i b:Nat} {o:AObj} (hi:hf[i]? =some o) (hb:Am.own G o=some b):∃ (j:Nat) (x:AObj),h[j]? =some x∧Am.own G x=some b:=z9a l.frz i o b hi hb
theorem kept {i b:Nat} {o:AObj} (hi:hf[i]? =some o) (ht:T.contains i=false) (hb:Am.own G o=some b):
  b < w.heap.size∧(∀ (j:Nat) x,s[j]? =some x→Am.own G' x≠some b)∧w'.heap[b]? =w.heap[b]? ∧∀ o v,I2 b o=some v→I1 b o=some v:=by
 have hlt:=q0n (l.rel1.obj i o hi) hb
 have hm:∀ (j:Nat) x,(maskFrom T 0 hf++List.replicate n .dead)[j]? =some x→Am.own G x≠some b:=fun j x hj hx=>by
  obtain⟨h1,h2⟩:=l.maskOwner hj hx
  have:=l.rel1.inj i j o x b hi h2 hb hx
  subst this
  rw[ht] at h1
  simp at h1
 have hs:∀ (j:Nat) x,s[j]? =some x→Am.own G' x≠some b:=fun j x hj hx=>by
  rcases l.ran.own j x b hj hx with ⟨k,y,hk,hy⟩ | hge
  ·exact hm k y hk hy
  ·omega
 exact⟨hlt,hs,l.ran.fr.kept b hlt hm,fun o v hv=>l.ran.ifr b hlt hm o v (l.new2 b hs o v hv)⟩
theorem srcOwner {i b:Nat} {o:AObj} (hi:hr[i]? =some o) (hb:Am.own G' o=some b):(∃ (j:Nat) (x:AObj),s[j]? =some x∧Am.own G' x=some b)∧((∃ (j:Nat) (x:AObj),h[j]? =some x∧Am.own G x=some b)∨w.heap.size≤b):=by
 obtain⟨j,x,h1,h2⟩:=z9a l.frz2 i o b hi hb
 refine⟨⟨j,x,h1,h2⟩, ?_⟩
 rcases l.ran.own j x b h1 h2 with ⟨k,y,hk,hy⟩ | hge
 ·obtain⟨_,h3⟩:=l.maskOwner hk hy
  exact .inl (l.hOwner h3 hy)
 ·exact .inr hge
theorem merge_rel {Gx:Ghost} {mm:List AObj} (hGx:GLe G Gx)
  (hmm:∀ (i:Nat) o,mm[i]? =some o→(T.contains i=false∧hf[i]? =some o)∨(hr[i]? =some o∧(i < h.length→T.contains i=true)∧ObjR Gx I2 w' i o∧Am.own Gx o=Am.own G' o)):
  Rel Gx I2 mm w'∧OwnLe G h w Gx mm:=by
 have hext:∀ (i:Nat) o,hf[i]? =some o→Am.own Gx o=Am.own G o:=fun i o hi=>q1i hGx (l.rel1.obj i o hi)
 refine⟨⟨l.rel2.imm,fun i o hi=> ?_,fun i j oi oj b hi hj h1 h2=> ?_⟩,fun i o b hi hb=> ?_⟩
 ·rcases hmm i o hi with ⟨ht,h1⟩ | ⟨_,_,h1,_⟩
  ·exact (l.rel1.obj i o h1).shift hGx (l.ran.ile.trans l.le2) (fun b hb=>(l.kept h1 ht hb).2.2.1) fun b hb o v hv=>(l.kept h1 ht hb).2.2.2 o v hv
  ·exact h1
 ·have cross:∀ {i j:Nat} {oi oj:AObj},T.contains i=false→hf[i]? =some oi→hr[j]? =some oj→Am.own Gx oi=some b→Am.own Gx oj=some b→Am.own Gx oj=Am.own G' oj→False:=fun ht g1 g2 g3 g4 g5=>by
   rw[hext _ _ g1] at g3
   rw[g5] at g4
   obtain⟨⟨k,x,hk,hx⟩,_⟩:=l.srcOwner g2 g4
   exact (l.kept g1 ht g3).2.1 k x hk hx
  rcases hmm i oi hi with ⟨ht1,g1⟩ | ⟨g1,_,_,e1⟩ <;> rcases hmm j oj hj with ⟨ht2,g2⟩ | ⟨g2,_,_,e2⟩
  ·rw[hext _ _ g1] at h1
   rw[hext _ _ g2] at h2
   exact l.rel1.inj i j oi oj b g1 g2 h1 h2
  ·exact (cross ht1 g1 g2 h1 h2 e2).elim
  ·exact (cross ht2 g2 g1 h2 h1 e1).elim
  ·rw[e1] at h1
   rw[e2] at h2
   exact l.rel2.inj i j oi oj b g1 g2 h1 h2
 ·rcases hmm i o hi with ⟨_,g1⟩ | ⟨g1,_,_,e1⟩
  ·rw[hext _ _ g1] at hb
   exact .inl (l.hOwner g1 hb)
  ·rw[e1] at hb
   exact (l.srcOwner g1 hb).2
theorem notMask {b:Nat} (hn:∀ (i:Nat) o,h[i]? =some o→Am.own G o≠some b) (i:Nat) (o:AObj) (hi:(maskFrom T 0 hf++List.replicate n .dead)[i]? =some o):Am.own G o≠some b:=fun hb=>by
 obtain⟨_,h1⟩:=l.maskOwner hi hb
 obtain⟨j,x,h2,h3⟩:=l.hOwner h1 hb
 exact hn j x h2 h3
theorem fr:Fr G h w w':=
 ⟨l.ran.fr.os,l.ran.fr.tape,l.ran.fr.output,l.ran.fr.size,fun b hb hn=>l.ran.fr.kept b hb (l.notMask hn)⟩
theorem ifr:IFr G h w I I2:=fun b hb hn o v hv=>by
 refine l.new1 b hn o v (l.ran.ifr b hb (l.notMask hn) o v (l.new2 b (fun i x hi hx=> ?_) o v hv))
 rcases l.ran.own i x b hi hx with ⟨k,y,hk,hy⟩ | hge
 ·exact l.notMask hn k y hk hy
 ·omega
theorem lenf:hf.length=h.length:=l.frz.1
theorem lenr:h.length≤hr.length:=by rw[l.frz2.1];exact l.len
theorem merged {i:Nat} {o:AObj} (hi:(z0t T 0 hf hr)[i]? =some o):i < h.length∧((T.contains i=false∧hf[i]? =some o)∨(T.contains i=true∧hr[i]? =some o)):=by
 have hlen:hf.length≤hr.length:=by rw[l.lenf];exact l.lenr
 have hlt:i < hf.length:=by
  rw[←z6m (T:=T) (k:=0) hlen]
  exact (List.getElem?_eq_some_iff.1 hi).1
 rw[q5i hlen hlt,Nat.zero_add] at hi
 refine⟨by rw[←l.lenf];exact hlt, ?_⟩
 cases ht:T.contains i with
 | true=>rw[ht] at hi;exact .inr ⟨rfl,by simpa using hi⟩
 | false=>rw[ht] at hi;exact .inl ⟨rfl,by simpa using hi⟩
theorem all:Ran h.length clk G I h w G' I2 (z0t T 0 hf hr++hr.drop h.length) w':=by
 have hlen:hf.length≤hr.length:=by rw[l.lenf];exact l.lenr
 obtain⟨h1,h2⟩:=l.merge_rel (Gx:=G') (mm:=z0t T 0 hf hr++hr.drop h.length) l.ran.gle fun i o hi=>by
  rw[List.getElem?_append,z6m hlen,l.lenf] at hi
  split at hi
  ·rename_i hlt
   rcases (l.merged hi).2 with ⟨g1,g2⟩ | ⟨g1,g2⟩
   ·exact .inl ⟨g1,g2⟩
   ·exact .inr ⟨g2,fun _=>g1,l.rel2.obj i o g2,rfl⟩
  ·rename_i hge
   rw[List.getElem?_drop,show h.length + (i - h.length)=i by omega] at hi
   exact .inr ⟨hi,fun hlt=>absurd hlt hge,l.rel2.obj i o hi,rfl⟩
 exact⟨h1,l.ran.gle,l.le1.trans (l.ran.ile.trans l.le2),l.ran.slots,h2,l.fr,l.ifr⟩
theorem cut {v:AV} {cv:Value} (hfresh:∀ g,clk≤g→G g=none) (hv:VR G' I2 v cv)
  (hids:∀ q∈v.ids++(T.map fun i=>((hr[i]?).map AObj.ids).getD []).flatten,q < h.length):
  ∃ G'',VR G'' I2 v cv∧Ran h.length clk G I h w G'' I2 (z0t T 0 hf hr) w'∧∀ g,clk≤g→G'' g=none:=by
 let G'':Ghost:=fun g=>if clk≤g then none else G' g
 have hkeep:j2c G' G'' h.length:=fun g i hg hi=>by
  show (if clk≤g then none else G' g)=some i
  cases hgg:G g with
  | none=>
    have:=(l.ran.slots g i hg hgg).2
    omega
  | some j=>
    have:¬ clk≤g:=fun hc=>by rw[hfresh g hc] at hgg;simp at hgg
    rw[if_neg this]
    exact hg
 have hG:GLe G G'':=fun g i hg=>by
  show (if clk≤g then none else G' g)=some i
  have:¬ clk≤g:=fun hc=>by rw[hfresh g hc] at hg;simp at hg
  rw[if_neg this]
  exact l.ran.gle g i hg
 have ownKeep:∀ (i:Nat) (o:AObj),ObjR G' I2 w' i o→i < h.length→Am.own G'' o=Am.own G' o:=fun i o ho hi=>by
  cases o with
  | dead=>rfl
  | blk g es row grow fz=>
    obtain⟨gi,_,_,g1,g2,_⟩:=ho
    simp only[Am.own]
    rw[g1,hkeep g gi g1 (by omega)]
  | tip g e=>
    obtain⟨gi,g1,g2,_⟩:=ho
    simp only[Am.own]
    rw[g1,hkeep g gi g1 (by omega)]
  | map g es=>
    obtain⟨gi,_,_,g1,g2,_⟩:=ho
    simp only[Am.own]
    rw[g1,hkeep g gi g1 (by omega)]
 refine⟨G'',VR.keep hkeep (fun q hq=>hids q (List.mem_append.2 (.inl hq))) hv, ?_,fun g hg=> ?_⟩
 ·obtain⟨h1,h2⟩:=l.merge_rel (Gx:=G'') (mm:=z0t T 0 hf hr) hG fun i o hi=>by
   obtain⟨hlt,hc⟩:=l.merged hi
   rcases hc with ⟨g1,g2⟩ | ⟨g1,g2⟩
   ·exact .inl ⟨g1,g2⟩
   ·have hob:=l.rel2.obj i o g2
    refine .inr ⟨g2,fun _=>g1,hob.keep hkeep hlt (fun q hq=>hids q (List.mem_append.2 (.inr ?_))),ownKeep i o hob hlt⟩
    rw[List.mem_flatten]
    exact⟨o.ids,List.mem_map.2 ⟨i,by simpa using g1,by simp[g2]⟩,hq⟩
  refine⟨h1,hG,l.le1.trans (l.ran.ile.trans l.le2),fun g i hg hn=> ?_,h2,l.fr,l.ifr⟩
  have hg:(if clk≤g then none else G' g)=some i:=hg
  split at hg
  ·simp at hg
  ·exact l.ran.slots g i hg hn
 ·show (if clk≤g then none else G' g)=none
  rw[if_pos hg]
end Left
end
end Go.Proofs.YtkollgjffkdliaaGreatDoor.Am
