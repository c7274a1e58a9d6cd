/- One operation of the abstract machine stands for one operation of the model: maps One operation of the abstract machine stands for one operation of the model: maps are read and written One operation o -/
import Derived.MapKept
import Derived.Test.YtkollgjffkdliaaGreatDoorK03
open Bool renaming false_eq_true → j9
open List renaming getElem?_cons_succ → l9,mem_append → x4,mem_cons → j6,mem_map → w0,mem_of_getElem? → m6
open Nat renaming add_assoc → d3,zero_add → k6
open Option renaming map_eq_some_iff → x5
set_option linter.all false
namespace Go.Proofs.YtkollgjffkdliaaGreatDoor.Am
open Go
set_option maxRecDepth 100000
section
variable {P:Program} {G:Ghost} {I:Imm} {h:List AObj} {w:World} {gen slot:Nat}
theorem q3b {em:Bool} {m:Nat} {xs:Array Value} {asx:List AV} (ha:ArrR G I asx xs):∀ (fs:List Field) (n:Nat) (ts:List STy) (r:Bool),z3h P n fs=some ts→
  eqL ts (asx.drop n) (asx.drop n)=some r→(forIn fs PUnit.unit fun f _=>(if f.name≠ "_" then do
      let v←part f.type xs f.offset
      Instr.checkKey em (m + 1) f.type v
      pure (ForInStep.yield PUnit.unit)
   else pure (ForInStep.yield PUnit.unit):Sem (ForInStep PUnit))).run P w= .ok PUnit.unit w
 | [],n,ts,r,hr,he=>by simp
 | f::fs,n,ts,r,hr,he=>by
   simp only[z3h] at hr
   split at hr
   ·rename_i hf
    cases h1:sTy P f.type with
    | none=>simp[h1] at hr
    | some s=>
      cases h2:z3h P (n + 1) fs with
      | none=>simp[h1,h2] at hr
      | some ss=>
        simp[h1,h2] at hr
        subst hr
        cases hda:asx.drop n with
        | nil=>rw[hda] at he;simp[eqL] at he
        | cons x asx'=>
          rw[hda] at he
          simp only[eqL] at he
          have ga:asx[n]? =some x:=by
           have:=congrArg (fun l=>l[0]?) hda
           simpa [List.getElem?_drop] using this
          have da:asx.drop (n + 1)=asx':=by rw[show asx.drop (n + 1)=(asx.drop n).drop 1 by rw[List.drop_drop],hda];rfl
          cases e1:x.eq1 s x with
          | none=>simp[e1] at he
          | some q=>
            cases e2:eqL ss asx' asx' with
            | none=>simp[e1,e2] at he
            | some q'=>
              obtain⟨u,hu,ru⟩:=ha.2 n x ga
              have h3:=(x6t (w:=w) (d:=0) h1 ru ru e1).2.2.2 em m
              have p1:=q3i (w:=w) h1 hu
              have ih:=q3b (em:=em) (m:=m) ha fs (n + 1) ss q' h2 (by rw[da];exact e2)
              rw[List.forIn_cons]
              simp only[hf.1,hf.2,ne_eq,not_false_eq_true,if_true,Sem.run_bind,p1,h3,Result.andThen,Sem.run_pure]
              simpa using ih
   ·simp at hr
theorem q8s {t:TypeId} {e:ETy} {x:AV} {a:Value} {r em:Bool} {m:Nat} (hk:kTy P t=some e) (hx:VR G I x a) (he:x.eqv e x=some r):(Instr.checkKey em (m + 2) t a).run P w= .ok () w:=by
 rcases z7c hk with ⟨s,hs,rfl⟩ | ⟨_,fs,ts,hu,_,_,h3,rfl⟩
 ·simp only[AV.eqv] at he
  exact (x6t (w:=w) (d:=0) hs hx hx he).2.2.2 em (m + 1)
 ·cases x <;> simp only[AV.eqv] at he <;> try (simp at he;done)
  obtain⟨us,rfl,ha⟩:=ArrR.of_agg hx
  have:=q3b (P:=P) (em:=em) (m:=m) (w:=w) ha fs.toList 0 ts r h3 (by simpa using he)
  unfold Instr.checkKey
  simp only[Sem.run_bind,run_underlying hu,Result.andThen]
  rw[←Array.forIn_toList]
  rw[this]
  rfl
theorem x4c {xs:List (AV×AV)}:∀ {ms:List MapEntry},MapR G I xs ms→xs.length=ms.length∧∀ (j:Nat) x,xs[j]? =some x→∃ e,ms[j]? =some e∧VR G I x.1 e.key∧VR G I x.2 e.val:=by
 induction xs with
 | nil=>intro ms hm;cases hm;simp
 | cons x xs ih=>
   intro ms hm
   obtain⟨e,rest,rfl,h1,h2,h3⟩:=hm
   obtain⟨ih1,ih2⟩:=ih h3
   refine⟨by simp[ih1],fun j y hy=> ?_⟩
   cases j with
   | zero=>simp at hy;subst hy;exact⟨e,rfl,h1,h2⟩
   | succ j=>simp at hy;simpa using ih2 j y hy
theorem x9w {xs:List (AV×AV)}:∀ {ms:List MapEntry},xs.length=ms.length→(∀ (j:Nat) x e,xs[j]? =some x→ms[j]? =some e→VR G I x.1 e.key∧VR G I x.2 e.val)→MapR G I xs ms:=by
 induction xs with
 | nil=>intro ms hl _;cases ms <;> simp at hl;rfl
 | cons x xs ih=>
   intro ms hl hr
   cases ms with
   | nil=>simp at hl
   | cons e ms=>
     have h0:=hr 0 x e rfl rfl
     exact⟨e,ms,rfl,h0.1,h0.2,ih (by simpa using hl) fun j y u hy hu=>hr (j + 1) y u (by simpa using hy) (by simpa using hu)⟩
theorem q6u {e:ETy} {k:AV}:∀ {xs:List (AV×AV)},findKey e k xs=some none→∀ x∈xs,k.eqv e x.1=some false
 | [],_,x,hx=>by simp at hx
 | y::xs,hf,x,hx=>by
   simp only[findKey] at hf
   split at hf
   ·simp at hf
   ·rename_i heq
    rcases j6.1 hx with rfl | hx
    ·exact heq
    ·exact q6u hf x hx
   ·simp at hf
theorem q6v {e:ETy} {k v:AV}:∀ {xs:List (AV×AV)},findKey e k xs=some (some v)→∃ (j:Nat) (kx:AV),xs[j]? =some (kx,v)∧k.eqv e kx=some true∧∀ (i:Nat) x,i < j→xs[i]? =some x→k.eqv e x.1=some false
 | [],hf=>by simp[findKey] at hf
 | y::xs,hf=>by
   simp only[findKey] at hf
   split at hf
   ·rename_i heq
    simp at hf
    subst hf
    exact⟨0,y.1,rfl,heq,fun i x hi=>by omega⟩
   ·rename_i heq
    obtain⟨j,kx,h1,h2,h3⟩:=q6v hf
    refine⟨j + 1,kx,by simpa using h1,h2,fun i x hi hx=> ?_⟩
    cases i with
    | zero=>simp at hx;subst hx;exact heq
    | succ i=>simp at hx;exact h3 i x (by omega) hx
   ·simp at hf
theorem q6w {e:ETy} {k v:AV}:∀ {xs ys:List (AV×AV)},z6j e k v xs=some ys→((∀ x∈xs,k.eqv e x.1=some false)∧ys=xs++[(k,v)])∨
  ∃ (j:Nat) (kx vx:AV),xs[j]? =some (kx,vx)∧k.eqv e kx=some true∧(∀ (i:Nat) x,i < j→xs[i]? =some x→k.eqv e x.1=some false)∧ys=xs.set j (k,v)
 | [],ys,hf=>by
   simp[z6j] at hf
   subst hf
   exact .inl ⟨by simp,rfl⟩
 | y::xs,ys,hf=>by
   simp only[z6j] at hf
   split at hf
   ·rename_i heq
    simp at hf
    subst hf
    exact .inr ⟨0,y.1,y.2,rfl,heq,fun i x hi=>by omega,rfl⟩
   ·rename_i heq
    simp at hf
    obtain⟨zs,h1,rfl⟩:=hf
    rcases q6w h1 with ⟨h2,rfl⟩ | ⟨j,kx,vx,h2,h3,h4,rfl⟩
    ·refine .inl ⟨fun x hx=> ?_,rfl⟩
     rcases j6.1 hx with rfl | hx
     ·exact heq
     ·exact h2 x hx
    ·refine .inr ⟨j + 1,kx,vx,by simpa using h2,h3,fun i x hi hx=> ?_,rfl⟩
     cases i with
     | zero=>simp at hx;subst hx;exact heq
     | succ i=>simp at hx;exact h4 i x (by omega) hx
   ·simp at hf
theorem q3m {t:TypeId} {e:ETy} {x y:AV} {a b:Value} {r:Bool} {d:TypeDesc} (hk:kTy P t=some e) (hu:P.underlying t=some d) (hx:VR G I x a) (hy:VR G I y b) (he:x.eqv e y=some r):
  Instr.sameNow d a b=some r∨(∀ u v,Instr.sameNow d u v=none):=by
 rcases z7c hk with ⟨s,hs,rfl⟩ | ⟨_,fs,ts,hu',_,_,h3,rfl⟩
 ·simp only[AV.eqv] at he
  have:=(x6t (w:=default) (d:=0) hs hx hy he).2.2.1
  rw[hu] at this
  exact .inl this
 ·rw[hu] at hu'
  simp at hu'
  subst hu'
  exact .inr fun u v=>by simp[Instr.sameNow]
theorem q4i {t:TypeId} {e:ETy} {k:AV} {kv:Value} {xs:List (AV×AV)} {ms:List MapEntry} (hk:kTy P t=some e) (hx:VR G I k kv) (hm:MapR G I xs ms) (hf:∀ x∈xs,k.eqv e x.1=some false):
  (Instr.findKey t kv ms).run P w= .ok none w:=by
 obtain⟨d,hu⟩:∃ d,P.underlying t=some d:=by
  rcases z7c hk with ⟨s,hs,_⟩ | ⟨_,fs,ts,hu,_⟩
  ·unfold sTy at hs
   cases hu:P.underlying t with
   | none=>simp[hu] at hs
   | some d=>exact⟨d,rfl⟩
  ·exact⟨_,hu⟩
 have hask:∀ (xs:List (AV×AV)) (ms:List MapEntry) (i:Nat),MapR G I xs ms→(∀ x∈xs,k.eqv e x.1=some false)→(Instr.findAsking t kv ms i).run P w= .ok none w:=by
  intro xs
  induction xs with
  | nil=>intro ms i hm _;cases hm;rfl
  | cons x xs ih=>
    intro ms i hm hf
    obtain⟨en,rest,rfl,h1,h2,h3⟩:=hm
    have:=x4a (w:=w) (d:=9998) hk hx h1 (hf x (by simp))
    have ih:=ih rest (i + 1) h3 fun y hy=>hf y (by simp[hy])
    simp only[Instr.findAsking,Sem.run_bind,Op.equal,Op.maxDepth,this,Result.andThen,j9,if_false]
    exact ih
 have hnow:∀ (xs:List (AV×AV)) (ms:List MapEntry) (i:Nat),MapR G I xs ms→(∀ x∈xs,k.eqv e x.1=some false)→Instr.findNow d kv ms i=some none∨Instr.findNow d kv ms i=none:=by
  intro xs
  induction xs with
  | nil=>intro ms i hm _;cases hm;exact .inl rfl
  | cons x xs ih=>
    intro ms i hm hf
    obtain⟨en,rest,rfl,h1,h2,h3⟩:=hm
    simp only[Instr.findNow]
    rcases q3m hk hu hx h1 (hf x (by simp)) with h | h
    ·rw[h]
     exact ih rest (i + 1) h3 fun y hy=>hf y (by simp[hy])
    ·rw[h]
     exact .inr rfl
 unfold Instr.findKey
 simp only[Sem.run_bind,run_underlying hu,Result.andThen]
 rcases hnow xs ms 0 hm hf with h | h
 ·rw[h];rfl
 ·rw[h];exact hask xs ms 0 hm hf
theorem q4j {t:TypeId} {e:ETy} {k kx vx:AV} {kv:Value} {xs:List (AV×AV)} {ms:List MapEntry} {j:Nat} (hk:kTy P t=some e) (hx:VR G I k kv) (hm:MapR G I xs ms) (hj:xs[j]? =some (kx,vx)) (he:k.eqv e kx=some true)
  (hf:∀ (i:Nat) x,i < j→xs[i]? =some x→k.eqv e x.1=some false):∃ en,ms[j]? =some en∧VR G I kx en.key∧VR G I vx en.val∧(Instr.findKey t kv ms).run P w= .ok (some (j,en.val)) w:=by
 obtain⟨en,hen,hkr,hvr⟩:=(x4c hm).2 j _ hj
 refine⟨en,hen,hkr,hvr, ?_⟩
 obtain⟨d,hu⟩:∃ d,P.underlying t=some d:=by
  rcases z7c hk with ⟨s,hs,_⟩ | ⟨_,fs,ts,hu,_⟩
  ·unfold sTy at hs
   cases hu:P.underlying t with
   | none=>simp[hu] at hs
   | some d=>exact⟨d,rfl⟩
  ·exact⟨_,hu⟩
 have hask:∀ (xs:List (AV×AV)) (ms:List MapEntry) (i j:Nat),MapR G I xs ms→xs[j]? =some (kx,vx)→ms[j]? =some en→(∀ (i:Nat) x,i < j→xs[i]? =some x→k.eqv e x.1=some false)→
   (Instr.findAsking t kv ms i).run P w= .ok (some (i + j,en.val)) w:=by
  intro xs
  induction xs with
  | nil=>intro ms i j _ hj;simp at hj
  | cons x xs ih=>
    intro ms i j hm hj hen hf
    obtain⟨e1,rest,rfl,h1,h2,h3⟩:=hm
    cases j with
    | zero=>
      simp at hj hen
      subst hj hen
      have:=x4a (w:=w) (d:=9998) hk hx h1 he
      simp only[Instr.findAsking,Sem.run_bind,Op.equal,Op.maxDepth,this,Result.andThen,if_true]
      rfl
    | succ j=>
      have:=x4a (w:=w) (d:=9998) hk hx h1 (hf 0 x (by omega) rfl)
      have ih:=ih rest (i + 1) j h3 (by simpa using hj) (by simpa using hen) fun i' y hi hy=>hf (i' + 1) y (by omega) (by simpa using hy)
      simp only[Instr.findAsking,Sem.run_bind,Op.equal,Op.maxDepth,this,Result.andThen,j9,if_false]
      rw[show i + (j + 1)=i + 1 + j by omega]
      exact ih
 have hnow:∀ (xs:List (AV×AV)) (ms:List MapEntry) (i j:Nat),MapR G I xs ms→xs[j]? =some (kx,vx)→ms[j]? =some en→(∀ (i:Nat) x,i < j→xs[i]? =some x→k.eqv e x.1=some false)→
   Instr.findNow d kv ms i=some (some (i + j,en.val))∨Instr.findNow d kv ms i=none:=by
  intro xs
  induction xs with
  | nil=>intro ms i j _ hj;simp at hj
  | cons x xs ih=>
    intro ms i j hm hj hen hf
    obtain⟨e1,rest,rfl,h1,h2,h3⟩:=hm
    simp only[Instr.findNow]
    cases j with
    | zero=>
      simp at hj hen
      subst hj hen
      rcases q3m hk hu hx h1 he with h | h
      ·rw[h];exact .inl rfl
      ·rw[h];exact .inr rfl
    | succ j=>
      rcases q3m hk hu hx h1 (hf 0 x (by omega) rfl) with h | h
      ·rw[h]
       have:=ih rest (i + 1) j h3 (by simpa using hj) (by simpa using hen) fun i' y hi hy=>hf (i' + 1) y (by omega) (by simpa using hy)
       rw[show i + 1 + j=i + (j + 1) by omega] at this
       exact this
      ·rw[h];exact .inr rfl
 unfold Instr.findKey
 simp only[Sem.run_bind,run_underlying hu,Result.andThen]
 rcases hnow xs ms 0 j hm hj hen hf with h | h
 ·rw[h,k6];rfl
 ·rw[h]
  have:=hask xs ms 0 j hm hj hen hf
  rwa [k6] at this
theorem x7d {s:STy} {x y:AV} {a b:Value} {n:Nat} (hx:VR G I x a) (hy:VR G I y b) (he:x.eq1 s y=some true):Instr.sameBits n b a=true:=by
 cases s <;> cases x <;> cases y <;> simp only[AV.eq1] at he <;> (try (simp at he;done)) <;> simp only[VR] at hx hy
 ·split at he
  ·rename_i e;subst e
   simp at he
   subst he hx hy
   simp[Instr.sameBits]
  ·simp at he
 ·simp at he
  subst he hx hy
  simp[Instr.sameBits]
 ·simp at he
  subst he
  obtain⟨rfl,_⟩:=hx
  obtain⟨rfl,_⟩:=hy
  unfold Instr.sameBits
  rw[beq_toListBytes]
  exact beq_self_eq_true _
theorem x7e {t:TypeId} {e:ETy} {x y:AV} {a b:Value} {n:Nat} (hk:kTy P t=some e) (hx:VR G I x a) (hy:VR G I y b) (he:x.eqv e y=some true):Instr.sameBits (n + 1) b a=true:=by
 rcases z7c hk with ⟨s,hs,rfl⟩ | ⟨_,fs,ts,hu',_,_,h3,rfl⟩
 ·simp only[AV.eqv] at he
  exact x7d hx hy he
 ·cases x <;> cases y <;> simp only[AV.eqv] at he <;> try (simp at he;done)
  rename_i asx bs
  simp only[VR] at hx hy
  obtain⟨us,rfl,hx⟩:=hx
  obtain⟨vs,rfl,hy⟩:=hy
  have key:∀ (ts:List STy) (asx bs:List AV) (us vs:List Value),VRL G I asx us→VRL G I bs vs→eqL ts asx bs=some true→vs.length=us.length∧(vs.zip us).all (fun (x,y)=>Instr.sameBits n x y)=true:=by
   intro ts
   induction ts with
   | nil=>
     intro asx bs us vs h1 h2 h3
     cases asx <;> cases bs <;> simp[eqL] at h3
     simp only[VRL] at h1 h2
     subst h1 h2
     exact⟨rfl,rfl⟩
   | cons s ts ih=>
     intro asx bs us vs h1 h2 h3
     cases asx <;> cases bs <;> simp only[eqL] at h3 <;> try (simp at h3;done)
     rename_i a asx b bs
     split at h3
     ·rename_i q q' e1 e2
      simp at h3
      obtain⟨rfl,rfl⟩:=h3
      simp only[VRL] at h1 h2
      obtain⟨u,us',rfl,g1,g2⟩:=h1
      obtain⟨v,vs',rfl,g3,g4⟩:=h2
      obtain⟨i1,i2⟩:=ih asx bs us' vs' g2 g4 e2
      refine⟨by simp[i1], ?_⟩
      simp only[List.zip_cons_cons,List.all_cons,x7d g1 g3 e1,Bool.true_and]
      exact i2
     ·simp at h3
  obtain⟨k1,k2⟩:=key ts asx bs _ _ hx hy he
  unfold Instr.sameBits
  simp only[Array.length_toList] at k1
  simp[k1]
  simpa using k2
end
section
variable {P:Program} {G:Ghost} {I:Imm} {h:List AObj} {w:World} {gen slot:Nat}
theorem x2f {t k e:TypeId} {kt:ETy} {z ix:AV} {cx cix:Value} {ok:Bool} {es:List (AV×AV)} {ents:List MapEntry} {r:Option AV} (hu:P.underlying t=some (.map k e)) (hk:kTy P k=some kt) (hz:zeroP P e=some z)
  (hx:(cx= .map none∧ents=[])∨∃ b clk,cx= .map (some b)∧w.heap[b]? =some (.map ents.toArray clk)) (hm:MapR G I es ents) (hi:VR G I ix cix) (hself:(ix.eqv kt ix).isSome=true) (hf:findKey kt ix es=some r):
  ∃ cv,(Instr.lookup t cx cix ok).run P w= .ok cv w∧VR G I (q4f ok z r) cv:=by
 obtain⟨b,hself⟩:=Option.isSome_iff_exists.1 hself
 obtain⟨zi,zv,hzi,hzv,hzr⟩:=z9a (G:=G) (I:=I) hz
 have hzrun:(zeroValue e).run P w= .ok zv w:=by simp[zeroValue,typeInfo,hzi,hzv]
 have hck:∀ em,(Instr.checkKey em 10000 k cix).run P w= .ok () w:=fun em=>q8s (m:=9998) hk hi hself
 have tup:∀ (x:AV) (v:Value) (q:Bool),VR G I x v→VR G I (if ok=true then AV.tup [x, .bool q] else x) (if ok=true then .tuple #[v, .bool q] else v):=fun x v q hv=>by
  cases ok with
  | false=>exact hv
  | true=>
    simp only[if_true,VR]
    exact⟨_,rfl,by simp[VRL,hv,VR]⟩
 cases r with
 | none=>
   have hfind:=q4i (w:=w) hk hi hm (q6u hf)
   refine⟨if ok then .tuple #[zv, .bool false] else zv, ?_,tup z zv false hzr⟩
   rcases hx with ⟨rfl,rfl⟩ | ⟨b,clk,rfl,hb⟩
   ·unfold Instr.lookup
    simp only[Sem.run_bind,run_underlying hu,Result.andThen,Sem.run_pure,hck,hfind,hzrun]
   ·unfold Instr.lookup
    simp only[Sem.run_bind,run_underlying hu,Result.andThen,MapKept.run_getObj_map hb,Sem.run_pure,hck,hfind,hzrun]
 | some v=>
   obtain⟨j,kx,h1,h2,h3⟩:=q6v hf
   obtain⟨en,_,_,hv,hfind⟩:=q4j (w:=w) hk hi hm h1 h2 h3
   refine⟨if ok then .tuple #[en.val, .bool true] else en.val, ?_,tup v en.val true hv⟩
   rcases hx with ⟨rfl,rfl⟩ | ⟨b,clk,rfl,hb⟩
   ·unfold Instr.lookup
    simp only[Sem.run_bind,run_underlying hu,Result.andThen,Sem.run_pure,hck,hfind]
   ·unfold Instr.lookup
    simp only[Sem.run_bind,run_underlying hu,Result.andThen,MapKept.run_getObj_map hb,Sem.run_pure,hck,hfind]
theorem j8y {t k e:TypeId} {kt:ETy} {z x ix:AV} {cx cix:Value} {ok:Bool} {es:List (AV×AV)} {r:Option AV} (rel:Rel G I h w) (hu:P.underlying t=some (.map k e)) (hk:kTy P k=some kt) (hz:zeroP P e=some z)
  (hx:VR G I x cx) (hes:x6n h x=some es) (hi:VR G I ix cix) (hself:(ix.eqv kt ix).isSome=true) (hf:findKey kt ix es=some r):
  ∃ cv,(Instr.lookup t cx cix ok).run P w= .ok cv w∧VR G I (q4f ok z r) cv:=by
 cases x <;> simp only[x6n] at hes <;> try (simp at hes;done)
 ·rename_i s g
  simp only[VR] at hx
  obtain⟨i,hi0,_,rfl⟩:=hx
  obtain⟨i',ents,clk,hi',_,hw,hm⟩:=rel.obj s _ (x3y hes)
  obtain rfl:i=i':=by rw[hi0] at hi';simpa using hi'
  exact x2f (ents:=ents.toList) hu hk hz (.inr ⟨i.blk,clk,rfl,by simpa using hw⟩) hm hi hself hf
 ·simp at hes
  subst hes
  simp only[VR] at hx
  subst hx
  exact x2f (ents:=[]) hu hk hz (.inl ⟨rfl,rfl⟩) (show MapR G I [] [] from rfl) hi hself hf
theorem Rel.setMap {s g clk clk':Nat} {es es':List (AV×AV)} {i:GInfo} {ents ents':Array MapEntry} (rel:Rel G I h w) (hs:h[s]? =some (.map g es)) (hi:G g=some i) (hsl:i.slot=s) (hw:w.heap[i.blk]? =some (.map ents clk)) (hm:MapR G I es' ents'.toList):
  Rel G I (h.set s (.map g es')) {w with heap:=w.heap.setIfInBounds i.blk (.map ents' clk')}:=by
 have hown:own G (.map g es)=some i.blk:=by simp[own,hi]
 obtain⟨hsame,hother⟩:=MapKept.heap_set (w:=w) (o':= .map ents' clk') hw
 refine⟨fun b o v hv=> ?_,fun j o hj=> ?_,fun j k oj ok b hj hk h1 h2=> ?_⟩
 ·have h0:=rel.imm b o v hv
  refine z4x h0 fun x hx=> ?_
  by_cases hb:b=i.blk
  ·subst hb
   simp only[World.cell?,hw] at h0
   simp at h0
  ·rw[hother b hb];exact hx
 ·rcases getElem?_set_cases hj with ⟨rfl,rfl⟩ | ⟨hne,hj⟩
  ·exact⟨i,ents',clk',hi,hsl,hsame,hm⟩
  ·refine (rel.obj j o hj).world fun b hb=>hother _ fun e=> ?_
   subst e
   exact hne (rel.inj j s o _ _ hj hs hb hown)
 ·rcases getElem?_set_cases hj with ⟨e1,rfl⟩ | ⟨hj1,hj2⟩ <;> rcases getElem?_set_cases hk with ⟨e2,rfl⟩ | ⟨hk1,hk2⟩
  ·rw[e1,e2]
  ·rw[e1]
   exact rel.inj s k _ ok b hs hk2 (by simpa [own] using h1) h2
  ·rw[e2]
   exact rel.inj j s oj _ b hj2 hs h1 (by simpa [own] using h2)
  ·exact rel.inj j k oj ok b hj2 hk2 h1 h2
theorem x9x {t kty e:TypeId} {kt:ETy} {k v v':AV} {cm ck cv:Value} {s g:Nat} {es es':List (AV×AV)} {h':List AObj} {r:Result Next} (hg:G gen=none) (rel:Rel G I h w) (hu:P.underlying t=some (.map kty e)) (hk:kTy P kty=some kt)
  (hm:VR G I (.mp s g) cm) (hkv:VR G I k ck) (hv:VR G I v cv) (hes:z5d h s g=some es) (hp:pub h v=some (v',h')) (hself:(k.eqv kt k).isSome=true) (hput:z6j kt k v' es=some es')
  (hr:r=((Instr.mapUpdate t cm ck cv).bind fun _=>Sem.pure .skip).run P w):Step G I h w gen slot r .undef (h'.set s (.map g es')):=by
 obtain⟨b,hself⟩:=Option.isSome_iff_exists.1 hself
 simp only[pub,x5,Prod.mk.injEq] at hp
 obtain⟨v1,hcv,rfl,rfl⟩:=hp
 obtain⟨I1,hI1,rel1,hv1,hnn⟩:=q8h hcv hv (Frozen.refl h) rel
 have hfr:=z2d h v.obs
 have hs:=x3y hes
 have hs1:=hfr.2 s _ hs
 simp only at hs1
 generalize freezeAll h v.obs=h1 at *
 simp only[VR] at hm
 obtain⟨i,hi0,hsl,rfl⟩:=hm
 obtain⟨i',ents,clk,hi',_,hw,hmr⟩:=rel1.obj s _ hs1
 obtain rfl:i=i':=by rw[hi0] at hi';simpa using hi'
 have hk1:=VR.mono (GLe.refl _) hI1 hkv
 have hck:∀ em,(Instr.checkKey em 10000 kty ck).run P w= .ok () w:=fun em=>q8s (m:=9998) hk hkv hself
 have hown:own G (.map g es)=some i.blk:=by simp[own,hi0]
 obtain⟨hlen,hget⟩:=x4c hmr
 have done:∀ (ents':Array MapEntry) (clk':Nat),(Instr.mapUpdate t (.map (some i.blk)) ck cv).run P w= .ok () {w with heap:=w.heap.setIfInBounds i.blk (.map ents' clk')}→MapR G I1 es' ents'.toList→
   Step G I h w gen slot r .undef (h1.set s (.map g es')):=fun ents' clk' hrun hmr'=>by
  have hx1:r= .ok .skip {w with heap:=w.heap.setIfInBounds i.blk (.map ents' clk')}:=by
   rw[hr,z4m,hrun]
   rfl
  refine Step.pre (I1:=I1) (h':=h1) ?_ hI1 hnn (z8k hfr)
  refine⟨_,undef,_,G,I1,hx1, .inr ⟨rfl,rfl⟩,by simp[VR],rel1.setMap hs1 hi0 hsl hw hmr',GLe.refl _,ILe.refl _,fun _ _=>rfl,fun i hi=>by simp[hg] at hi, ?_,⟨rfl,rfl,rfl,by simp,fun k _ hn=> ?_⟩,IFr.refl⟩
  ·refine OwnLe.same fun j o hj=> ?_
   rcases getElem?_set_cases hj with ⟨rfl,rfl⟩ | ⟨_,hj⟩
   ·exact⟨j,_,hs1,fun b hb=>by simpa [own] using hb⟩
   ·exact⟨j,o,hj,fun _ hb=>hb⟩
  ·exact (MapKept.heap_set (w:=w) (o':= .map ents' clk') hw).2 k fun e=>hn s _ hs1 (by rw[e];exact hown)
 rcases q6w hput with ⟨hall,rfl⟩ | ⟨j,kx,vx,hj,heq,hbef,rfl⟩
 ·have hfind:=q4i (w:=w) hk hk1 hmr hall
  refine done (ents.push {key:=ck,val:=cv,born:=clk}) (clk + 1) ?_ ?_
  ·unfold Instr.mapUpdate
   simp only[Sem.run_bind,run_underlying hu,Result.andThen,MapKept.run_getObj_map hw,hck,hfind]
   exact MapKept.run_setObj_map _ hw
  ·refine x9w (by simp[hlen]) fun q x en hx hen=> ?_
   rw[Array.toList_push] at hen
   rw[List.getElem?_append] at hx hen
   split at hx
   ·rename_i hq
    rw[if_pos (by omega)] at hen
    obtain⟨en',h1,h2⟩:=hget q x hx
    rw[h1] at hen
    simp at hen
    subst hen
    exact h2
   ·rename_i hq
    rw[if_neg (by omega)] at hen
    have hq0:q - es.length=0:=by
     have:=(List.getElem?_eq_some_iff.1 hx).1
     simp at this
     omega
    rw[hq0] at hx
    rw[show q - ents.toList.length=0 by omega] at hen
    simp at hx hen
    subst hx hen
    exact⟨hk1,hv1⟩
 ·obtain⟨en,hen,hkr,hvr,hfind⟩:=q4j (w:=w) hk hk1 hmr hj heq hbef
  have hsb:=x7e (n:=9999) hk hk1 hkr heq
  have hen':ents[j]? =some en:=by rw[←Array.getElem?_toList];exact hen
  refine done (ents.modify j fun e=>{e with key:=ck,val:=cv}) clk ?_ ?_
  ·unfold Instr.mapUpdate
   simp only[Sem.run_bind,run_underlying hu,Result.andThen,MapKept.run_getObj_map hw,hck,hfind,hen',Option.map_some,Option.getD_some,Instr.keyThatStays,hsb,if_true,Sem.run_pure]
   exact MapKept.run_setObj_map _ hw
  ·refine x9w (by simp[hlen]) fun q x en' hx hen'=> ?_
   rw[Array.getElem?_toList,Array.getElem?_modify] at hen'
   rcases getElem?_set_cases hx with ⟨rfl,rfl⟩ | ⟨hne,hx⟩
   ·rw[if_pos rfl,←Array.getElem?_toList,hen] at hen'
    simp at hen'
    subst hen'
    exact⟨hk1,hv1⟩
   ·rw[if_neg (Ne.symm hne),←Array.getElem?_toList] at hen'
    obtain⟨en2,h1,h2⟩:=hget q x hx
    rw[h1] at hen'
    simp at hen'
    subst hen'
    exact h2
end
section
variable {P:Program} {G:Ghost} {I:Imm} {h:List AObj} {w:World} {gen slot:Nat}
def vOf (s:Sem Value):Sem Next:=s.bind fun v=>Sem.pure (.value v)
def uOf (s:Sem Unit):Sem Next:=s.bind fun _=>Sem.pure .skip
theorem x9y {s:Sem Value} {cv:Value} {w':World} (hr:s.run P w= .ok cv w'):(vOf s).run P w= .ok (.value cv) w':=by
 unfold vOf
 rw[z4m,hr]
 rfl
theorem Step.val {s:Sem Value} {v:AV} (hg:G gen=none) (rel:Rel G I h w) (hr:∃ cv,s.run P w= .ok cv w∧VR G I v cv):Step G I h w gen slot ((vOf s).run P w) v h:=by
 obtain⟨cv,h1,h2⟩:=hr
 exact Step.pure hg rel (x9y h1) h2
theorem z5f {s:Nat}:∀ (l:List (Nat×Nat)) (h:List AObj),s∉l.map (·.1)→(freezeAll h l)[s]? =h[s]?
 | [],h,_=>rfl
 | x::l,h,hn=>by
   simp only[List.map_cons,j6,not_or] at hn
   rw[show x::l=[x]++l from rfl,z3o,z6l,z5f l _ hn.2]
   unfold freeze1
   split
   ·rw[List.getElem?_set_ne (Ne.symm hn.1)]
   ·rfl
variable {ts:Tmps} {ρ:Operand→Value} {v:AV} {h':List AObj} {n:Nat} {mu:Bool} {base:Nat} {back:Nat→Option Nat}
abbrev Does (P:Program) (G:Ghost) (I:Imm) (h:List AObj) (w:World) (gen slot:Nat) (ρ:Operand→Value) (op:Op) (v:AV) (h':List AObj):Prop:=
 ∀ (dst:Option Nat) (ty:TypeId) (pos:String) (after:Array Edge) (guard:Option (Nat×Bool)),Step G I h w gen slot ((execOp ρ ⟨dst,op,ty,pos,after,guard⟩).run P w) v h'
theorem j8z {x:Operand} {a:AOp} (hg:G gen=none) (rel:Rel G I h w) (ht:TR G I ts ρ) (hc:(z5x x).map AOp.move=some a) (hp:prim h base gen ts a=some (v,h')):Does P G I h w gen slot ρ (.move x) v h'∧Does P G I h w gen slot ρ (.assign x) v h':=by
 simp only[x5] at hc
 obtain⟨b,h1,rfl⟩:=hc
 simp[prim] at hp
 obtain⟨rfl,rfl⟩:=hp
 exact⟨fun _ _ _ _ _=>Step.pure hg rel rfl (z1b ht h1),fun _ _ _ _ _=>Step.pure hg rel rfl (z1b ht h1)⟩
theorem v4s {c x y:Operand} {a:AOp} (hg:G gen=none) (rel:Rel G I h w) (ht:TR G I ts ρ) (hc:cOp P back n mu (.pick c x y)=some a) (hp:prim h base gen ts a=some (v,h')):Does P G I h w gen slot ρ (.pick c x y) v h':=by
 simp only[cOp] at hc
 split at hc
 ·rename_i c' x' y' h1 h2 h3
  simp at hc
  subst hc
  simp only[prim] at hp
  split at hp
  ·rename_i t heq
   simp at hp
   obtain⟨rfl,rfl⟩:=hp
   have hcv:=z1b ht h1
   rw[heq] at hcv
   simp only[VR] at hcv
   intro _ _ _ _ _
   refine Step.pure hg rel (cv:=if t then ρ x else ρ y) ?_ ?_
   ·simp only[execOp,hcv]
    cases t <;> rfl
   ·cases t
    ·exact z1b ht h3
    ·exact z1b ht h2
  ·simp at hp
 ·simp at hc
theorem j2v {z:AV} (hz:¬ (z.cells.isEmpty || !z.def?)=true):z.cells≠[]∧z.def? =true:=by
 simp at hz
 exact⟨hz.1,hz.2⟩
theorem k4w {t:TypeId} {a:AOp} (hg:G gen=none) (rel:Rel G I h w) (hc:cOp P back n mu (.alloc t)=some a) (hp:prim h base gen ts a=some (v,h')):Does P G I h w gen (base + n) ρ (.alloc t) v h':=by
 simp only[cOp,x5] at hc
 obtain⟨z,h1,rfl⟩:=hc
 simp only[prim] at hp
 split at hp
 ·simp at hp
 ·rename_i hz
  simp only[Option.some.injEq,Prod.mk.injEq] at hp
  obtain⟨rfl,rfl⟩:=hp
  obtain⟨hne,hd⟩:=j2v hz
  obtain⟨i,zv,hi,hzv,hvr⟩:=z9a (G:=G) (I:=I) h1
  intro _ _ _ _ _
  refine j2o (t:=t) hg rel hd hne hvr ?_
  have hz:(zeroValue t).run P w= .ok zv w:=by simp[zeroValue,typeInfo,hi,hzv]
  show Sem.run P (vOf (Instr.alloc t true (.tuple #[]))) w=_
  refine x9y ?_
  simp[Instr.alloc,hz,newVar,newRow]
theorem w2o {t:TypeId} {x:Operand} {a:AOp} (hg:G gen=none) (rel:Rel G I h w) (ht:TR G I ts ρ) (hc:cOp P back n mu (.box t x)=some a) (hp:prim h base gen ts a=some (v,h')):Does P G I h w gen (base + n) ρ (.box t x) v h':=by
 simp only[cOp,x5] at hc
 obtain⟨z,h1,rfl⟩:=hc
 simp only[prim] at hp
 split at hp
 ·simp at hp
 ·rename_i hz
  simp only[Option.some.injEq,Prod.mk.injEq] at hp
  obtain⟨rfl,rfl⟩:=hp
  obtain⟨hne,hd⟩:=j2v hz
  intro _ _ _ _ _
  refine j2o (t:=t) hg rel hd hne (z1b ht h1) ?_
  show Sem.run P (vOf (Instr.box t (ρ x))) w=_
  refine x9y ?_
  simp[Instr.box,newVar,newRow]
theorem k4x {t:TypeId} {parts:Array (Nat×Operand)} {a:AOp} (hg:G gen=none) (rel:Rel G I h w) (ht:TR G I ts ρ) (hc:cOp P back n mu (.build t parts)=some a) (hp:prim h base gen ts a=some (v,h')):Does P G I h w gen slot ρ (.build t parts) v h':=by
 have fin:∀ {z:AV} {ps:List (Nat×Nat×AOpd)} {q0a:Nat→Option (Nat×Nat)},zeroP P t=some z→((∃ fs places,P.underlying t=some (.struct fs)∧fs.toList.mapM (fun f=>(P.info? f.type).map fun i=>(f.offset,i.size))=some places∧q0a=fun i=>places[i]?)∨
   (∃ n e s,P.underlying t=some (.array n e)∧sizeP P e=some s∧q0a=fun i=>some (i * s,s)))→q6t parts.toList q0a=some ps→a= .build z.cells ps→Does P G I h w gen slot ρ (.build t parts) v h':=by
  intro z ps q0a hz hpl hcp ha
  subst ha
  simp only[prim,x5,Prod.mk.injEq] at hp
  obtain⟨cs,h1,rfl,rfl⟩:=hp
  intro _ _ _ _ _
  exact Step.val hg rel (k4u ht hz hpl hcp h1)
 simp only[cOp] at hc
 split at hc
 ·rename_i fs z hu hz
  split at hc
  ·rename_i places hpl
   simp only[x5] at hc
   obtain⟨ps,h1,h2⟩:=hc
   exact fin hz (.inl ⟨fs,places,hu,hpl,rfl⟩) h1 h2.symm
  ·simp at hc
 ·rename_i m e z hu hz
  split at hc
  ·rename_i s hs
   simp only[x5] at hc
   obtain⟨ps,h1,h2⟩:=hc
   exact fin hz (.inr ⟨m,e,s,hu,hs,rfl⟩) h1 h2.symm
  ·simp at hc
 ·simp at hc
theorem x4d {t:TypeId} {m:Nat} {parts:Array (Nat×Operand)} {a:AOp} (hg:G gen=none) (rel:Rel G I h w) (ht:TR G I ts ρ) (hc:cOp P back n mu (.buildSlice t m parts)=some a) (hp:prim h base gen ts a=some (v,h')):Does P G I h w gen (base + n) ρ (.buildSlice t m parts) v h':=by
 simp only[cOp] at hc
 split at hc
 ·rename_i e hu
  split at hc
  ·rename_i s z ps hs hz hps
   split at hc
   ·rename_i hcond
    simp only[Option.some.injEq] at hc
    subst hc
    simp only[prim] at hp
    split at hp
    ·simp at hp
    ·split at hp
     ·rename_i vs hcv
      simp only[x5] at hp
      obtain⟨es,h1,h2⟩:=hp
      intro _ _ _ _ _
      simp only[execOp]
      have:=q8o (gen:=gen) (slot:=base + n) (mu:=mu) (n:=m) (parts:=parts) hg rel ht hu hs hz hps hcond.1 hcond.2.1 hcond.2.2 hcv h1 rfl
      cases mu with
      | true=>
        simp only[if_true,Prod.mk.injEq] at h2
        rw[←h2.1,←h2.2]
        exact this
      | false=>
        simp only[j9,if_false,Prod.mk.injEq] at h2
        rw[←h2.1,←h2.2]
        exact this
     ·simp at hp
   ·simp at hc
  ·simp at hc
 ·simp at hc
theorem v4t {t:TypeId} {x:Operand} {a:AOp} (hg:G gen=none) (rel:Rel G I h w) (ht:TR G I ts ρ) (hc:cOp P back n mu (.load t x)=some a) (hp:prim h base gen ts a=some (v,h')):Does P G I h w gen slot ρ (.load t x) v h':=by
 simp only[cOp] at hc
 split at hc
 ·rename_i s b hs hb
  simp at hc
  subst hc
  have hx:=z1b ht hb
  simp only[prim] at hp
  split at hp
  ·rename_i s' g i o heq
   rw[heq] at hx
   split at hp
   ·rename_i es row grow fz hbk
    cases he:es[i]? with
    | none=>simp[he] at hp
    | some e=>
      simp only[he,Option.bind_some,x5,Prod.mk.injEq] at hp
      obtain⟨v',hr,rfl,rfl⟩:=hp
      intro _ _ _ _ _
      exact Step.val hg rel (k4o rel hx hs hbk he hr)
   ·simp at hp
  ·rename_i cs o heq
   rw[heq] at hx
   simp only[x5,Prod.mk.injEq] at hp
   obtain⟨v',hr,rfl,rfl⟩:=hp
   intro _ _ _ _ _
   exact Step.val hg rel (j8l rel hx hs hr)
  ·simp at hp
 ·simp at hc
theorem k4y {t:TypeId} {x y:Operand} {a:AOp} (hg:G gen=none) (rel:Rel G I h w) (ht:TR G I ts ρ) (hc:cOp P back n mu (.store t x y)=some a) (hp:prim h base gen ts a=some (v,h')):Does P G I h w gen slot ρ (.store t x y) v h':=by
 simp only[cOp] at hc
 split at hc
 ·rename_i sz a1 x1 hs h1 h2
  split at hc
  ·simp at hc
  ·rename_i hsz
   simp at hc
   subst hc
   have hx:=z1b ht h1
   have hy:=z1b ht h2
   simp only[prim] at hp
   split at hp
   ·rename_i s g i o heq
    rw[heq] at hx
    split at hp
    ·rename_i es row grow fz hbk
     have hb:=z8z hbk
     split at hp
     ·rename_i e v1 h1' he hpub
      split at hp
      ·rename_i hcond
       simp only[x5,Prod.mk.injEq] at hp
       obtain⟨cs,hsp,rfl,rfl⟩:=hp
       obtain⟨hd,hl,hone,hrow⟩:=hcond
       have pre:∃ I1,ILe I I1∧Rel G I1 h1' w∧VR G I1 v1 (ρ y)∧h1'[s]? =some (.blk g es row grow fz)∧(∀ (i:Nat) o b,h1'[i]? =some o→own G o=some b→∃ (j:Nat) (x:AObj),h[j]? =some x∧own G x=some b)∧NoNew G h I I1:=by
        cases row with
        | false=>
          simp at hpub
          obtain⟨rfl,rfl⟩:=hpub
          exact⟨I,ILe.refl _,rel,hy,hb,fun i o b hi hb=>⟨i,o,hi,hb⟩,NoNew.refl⟩
        | true=>
          simp only[if_true,pub,x5,Prod.mk.injEq] at hpub
          obtain⟨v2,hcv,rfl,rfl⟩:=hpub
          obtain⟨I1,hI1,rel1,hv1,hnn⟩:=q8h hcv hy (Frozen.refl h) rel
          refine⟨I1,hI1,rel1,hv1, ?_,z8k (z2d _ _),hnn⟩
          rw[z5f _ _ (by have:=(hrow rfl).2;simpa using this)]
          exact hb
       obtain⟨I1,hI1,rel1,hv1,hb1,hown,hnn⟩:=pre
       obtain⟨b,cs',ho,hrun,hrel⟩:=j8m rel1 (VR.mono (GLe.refl _) hI1 hx) hs hb1 he hd hl (by omega) hone (fun hr=>(hrow hr).1) hsp hv1
       intro _ _ _ _ _
       refine Step.pre (I1:=I1) (h':=h1') ?_ hI1 hnn hown
       refine⟨.skip,undef,w.setRow b cs',G,I1, ?_, .inr ⟨rfl,rfl⟩,by simp[VR],hrel,GLe.refl _,ILe.refl _,fun _ _=>rfl,fun i hi=>by simp[hg] at hi, ?_,Fr.setRow hb1 ho,IFr.refl⟩
       ·show Sem.run P (uOf (Instr.storeAt t (ρ x) (ρ y))) w=_
        unfold uOf
        rw[z4m,hrun]
        rfl
       ·refine OwnLe.same fun j o hj=> ?_
        rcases getElem?_set_cases hj with ⟨rfl,rfl⟩ | ⟨_,hj⟩
        ·exact⟨j,_,hb1,fun b hb=>by simpa [own] using hb⟩
        ·exact⟨j,o,hj,fun _ hb=>hb⟩
      ·simp at hp
     ·simp at hp
    ·simp at hp
   ·simp at hp
 ·simp at hc
theorem x9z {x:Operand} {a:AOp} (hg:G gen=none) (rel:Rel G I h w) (ht:TR G I ts ρ) (hc:cOp P back n mu (.nilCheck x)=some a) (hp:prim h base gen ts a=some (v,h')):Does P G I h w gen slot ρ (.nilCheck x) v h':=by
 simp only[cOp,x5] at hc
 obtain⟨b,h1,rfl⟩:=hc
 have hx:=z1b ht h1
 simp only[prim] at hp
 split at hp
 ·rename_i s g i o heq
  rw[heq] at hx
  simp at hp
  obtain⟨rfl,rfl⟩:=hp
  intro _ _ _ _ _
  have hx':=hx
  simp only[VR] at hx'
  obtain⟨gi,_,_,hv⟩:=hx'
  exact Step.pure hg rel (cv:=ρ x) (by simp only[execOp,hv];rfl) hx
 ·rename_i cs o heq
  rw[heq] at hx
  simp at hp
  obtain⟨rfl,rfl⟩:=hp
  intro _ _ _ _ _
  have hx':=hx
  simp only[VR] at hx'
  obtain⟨b,p,hv,_⟩:=hx'
  exact Step.pure hg rel (cv:=ρ x) (by simp only[execOp,hv];rfl) hx
 ·simp at hp
theorem k4z {op:BinOp} {t yt:TypeId} {x y:Operand} {a:AOp} (hg:G gen=none) (rel:Rel G I h w) (ht:TR G I ts ρ) (hc:cOp P back n mu (.binOp op t x y yt)=some a) (hp:prim h base gen ts a=some (v,h')):Does P G I h w gen slot ρ (.binOp op t x y yt) v h':=by
 simp only[cOp] at hc
 split at hc
 ·rename_i x1 y1 h1 h2
  have hx:=z1b ht h1
  have hy:=z1b ht h2
  obtain⟨e,he,rfl⟩:∃ e,((w2g P op t x y=true∧e= .iface)∨eTy P t=some e)∧a= .binOp op e x1 y1:=by
   split at hc
   ·simp at hc
    exact⟨_, .inl ⟨‹_›,rfl⟩,hc.symm⟩
   ·simp only[x5] at hc
    obtain⟨e,h3,h4⟩:=hc
    exact⟨e, .inr h3,h4.symm⟩
  simp only[prim,x5,Prod.mk.injEq] at hp
  obtain⟨v',hb,rfl,rfl⟩:=hp
  intro _ _ _ _ _
  exact Step.val hg rel (w2l he hx hy hb)
 ·simp at hc
theorem v4u {op:UnOp} {t:TypeId} {x:Operand} {a:AOp} (hg:G gen=none) (rel:Rel G I h w) (ht:TR G I ts ρ) (hc:cOp P back n mu (.unOp op t x)=some a) (hp:prim h base gen ts a=some (v,h')):Does P G I h w gen slot ρ (.unOp op t x) v h':=by
 simp only[cOp,x5] at hc
 obtain⟨b,h1,rfl⟩:=hc
 simp only[prim,x5,Prod.mk.injEq] at hp
 obtain⟨v',hb,rfl,rfl⟩:=hp
 intro _ _ _ _ _
 exact Step.val hg rel (y4p (z1b ht h1) hb)
theorem j6e {s d:TypeId} {x:Operand} {a:AOp} (hg:G gen=none) (rel:Rel G I h w) (ht:TR G I ts ρ) (hc:cOp P back n mu (.convert s d x)=some a) (hp:prim h base gen ts a=some (v,h')):Does P G I h w gen slot ρ (.convert s d x) v h':=by
 simp only[cOp] at hc
 split at hc
 ·rename_i k0 k a1 hs hd h1
  simp at hc
  subst hc
  have hx:=z1b ht h1
  simp only[prim] at hp
  split at hp
  ·rename_i k1 m heq
   rw[heq] at hx
   simp at hp
   obtain⟨rfl,rfl⟩:=hp
   simp only[VR] at hx
   intro _ _ _ _ _
   refine Step.val (s:=convert s d (ρ x)) hg rel ⟨.int k (k.wrap m), ?_,by simp[VR]⟩
   simp[hx,convert,run_underlying hs,run_underlying hd,Conv.intToInt]
  ·simp at hp
 ·rename_i a1 hs hd h1
  simp at hc
  subst hc
  have hx:=z1b ht h1
  simp only[prim] at hp
  split at hp
  ·rename_i m heq
   rw[heq] at hx
   simp at hp
   obtain⟨rfl,rfl⟩:=hp
   have hx':=hx
   simp only[VR] at hx
   obtain⟨hx,_⟩:=hx
   intro _ _ _ _ _
   refine Step.val (s:=convert s d (ρ x)) hg rel ⟨ρ x, ?_,hx'⟩
   simp[hx,convert,run_underlying hs,run_underlying hd]
  ·simp at hp
 ·rename_i e a1 hs hd h1
  split at hc
  ·rename_i he
   simp at hc
   subst hc
   have hx:=z1b ht h1
   simp only[prim] at hp
   split at hp
   ·rename_i m heq
    rw[heq] at hx
    simp only[Option.some.injEq,Prod.mk.injEq] at hp
    obtain⟨rfl,rfl⟩:=hp
    intro _ _ _ _ _
    exact x6v hg rel hs hd he hx rfl
   ·simp at hp
  ·simp at hc
 ·rename_i e a1 hs hd h1
  split at hc
  ·rename_i he
   simp at hc
   subst hc
   have hx:=z1b ht h1
   simp only[prim] at hp
   split at hp
   ·simp at hp
   ·rename_i hns
    simp only[x5,Option.bind_eq_some_iff,Prod.mk.injEq] at hp
    obtain⟨s',⟨ys,hy,hb⟩,rfl,rfl⟩:=hp
    intro _ _ _ _ _
    exact Step.val (s:=convert s d (ρ x)) hg rel (j6d rel hs hd he hx hy hb fun s e=>hns s e)
  ·simp at hc
 ·simp at hc
theorem j6f {t:TypeId} {rsv:Option Operand} {a:AOp} (hg:G gen=none) (rel:Rel G I h w) (hc:cOp P back n mu (.makeMap t rsv)=some a) (hp:prim h base gen ts a=some (v,h')):Does P G I h w gen (base + n) ρ (.makeMap t rsv) v h':=by
 simp only[cOp] at hc
 split at hc
 ·split at hc
  ·simp at hc
   subst hc
   simp[prim] at hp
   obtain⟨rfl,rfl⟩:=hp
   intro _ _ _ _ _
   exact x6w (t:=t) hg rel rfl
  ·simp at hc
 ·simp at hc
theorem j9a {t:TypeId} {x ix:Operand} {ok:Bool} {a:AOp} (hg:G gen=none) (rel:Rel G I h w) (ht:TR G I ts ρ) (hc:cOp P back n mu (.lookup t x ix ok)=some a) (hp:prim h base gen ts a=some (v,h')):Does P G I h w gen slot ρ (.lookup t x ix ok) v h':=by
 simp only[cOp] at hc
 split at hc
 ·rename_i k e a1 i1 hu h1 h2
  split at hc
  ·rename_i kt z hk hz
   simp at hc
   subst hc
   simp only[prim] at hp
   split at hp
   ·rename_i es hes
    split at hp
    ·rename_i hself
     simp only[x5,Prod.mk.injEq] at hp
     obtain⟨r,hf,rfl,rfl⟩:=hp
     intro _ _ _ _ _
     exact Step.val (s:=Instr.lookup t (ρ x) (ρ ix) ok) hg rel (j8y rel hu hk hz (z1b ht h1) hes (z1b ht h2) hself hf)
    ·simp at hp
   ·simp at hp
  ·simp at hc
 ·simp at hc
theorem x7f {t:TypeId} {m k x:Operand} {a:AOp} (hg:G gen=none) (rel:Rel G I h w) (ht:TR G I ts ρ) (hc:cOp P back n mu (.mapUpdate t m k x)=some a) (hp:prim h base gen ts a=some (v,h')):Does P G I h w gen slot ρ (.mapUpdate t m k x) v h':=by
 simp only[cOp] at hc
 split at hc
 ·rename_i kty e m1 k1 x1 hu h1 h2 h3
  simp only[x5] at hc
  obtain⟨kt,hk,rfl⟩:=hc
  have hm:=z1b ht h1
  simp only[prim] at hp
  split at hp
  ·rename_i s g heq
   rw[heq] at hm
   split at hp
   ·rename_i es v' h1' hes hpub
    split at hp
    ·rename_i hself
     simp only[x5,Prod.mk.injEq] at hp
     obtain⟨es',hput,rfl,rfl⟩:=hp
     intro _ _ _ _ _
     exact x9x hg rel hu hk hm (z1b ht h2) (z1b ht h3) hes hpub hself hput rfl
    ·simp at hp
   ·simp at hp
  ·simp at hp
 ·simp at hc
theorem x7g {t:TypeId} {l c:Operand} {a:AOp} (hg:G gen=none) (rel:Rel G I h w) (ht:TR G I ts ρ) (hc:cOp P back n mu (.makeSlice t l c)=some a) (hp:prim h base gen ts a=some (v,h')):Does P G I h w gen (base + n) ρ (.makeSlice t l c) v h':=by
 simp only[cOp] at hc
 split at hc
 ·rename_i e hu
  split at hc
  ·rename_i s z b l1 c1 hs hz hb h1 h2
   split at hc
   ·rename_i hcond
    simp at hc
    subst hc
    have hl:=z1b ht h1
    have hcc:=z1b ht h2
    simp only[prim] at hp
    split at hp
    ·rename_i k1 i k2 j heq1 heq2
     rw[heq1] at hl
     rw[heq2] at hcc
     split at hp
     ·rename_i hcnd
      simp only[Option.some.injEq,Prod.mk.injEq] at hp
      obtain⟨rfl,rfl⟩:=hp
      simp only[VR] at hl hcc
      intro _ _ _ _ _
      refine x1n (kl:=k1) (kc:=k2) hg rel hu hs hz hb hcond.1 hcond.2 hcnd.2.2.2 hcnd.1 hcnd.2.1 hcnd.2.2.1 ?_
      show Sem.run P (vOf (Instr.makeSlice t (ρ l) (ρ c))) w=_
      rw[hl,hcc]
      rfl
     ·simp at hp
    ·simp at hp
   ·simp at hc
  ·simp at hc
 ·simp at hc
end
section
variable {P:Program} {G:Ghost} {I:Imm} {h:List AObj} {w:World} {gen slot:Nat}
variable {ts:Tmps} {ρ:Operand→Value} {v:AV} {h':List AObj} {n:Nat} {mu:Bool} {base:Nat} {back:Nat→Option Nat}
theorem k5a {t:TypeId} {x:Operand} {lo hi mx:Option Operand} {a:AOp} (hg:G gen=none) (rel:Rel G I h w) (ht:TR G I ts ρ) (hc:cOp P back n mu (.slice t x lo hi mx)=some a) (hp:prim h base gen ts a=some (v,h')):Does P G I h w gen slot ρ (.slice t x lo hi mx) v h':=by
 simp only[cOp] at hc
 split at hc
 ·rename_i hu
  split at hc
  ·rename_i x1 lo1 hi1 mx1 h1 h2 h3 h4
   simp at hc
   subst hc
   have hx:=z1b ht h1
   have hlo:=q2k ht h2
   have hhi:=q2k ht h3
   have hmx:=q2k ht h4
   simp only[prim,x5,Prod.mk.injEq] at hp
   obtain⟨v',hs,rfl,rfl⟩:=hp
   unfold z2v at hs
   split at hs
   ·rename_i s _ heq
    rw[heq] at hx
    split at hs
    ·rename_i l r hl hr hm
     split at hs
     ·rename_i hlr
      simp at hs
      subst hs
      have hmn:mx.map ρ=none:=by
       cases mx with
       | none=>rfl
       | some m=>
         simp[q7k] at h4
         obtain⟨q,_,rfl⟩:=h4
         simp at hm
      simp only[VR] at hx
      obtain⟨hx,hb⟩:=hx
      intro _ _ _ _ _
      refine Step.val (s:=Instr.sliceAt t (ρ x) (lo.map ρ) (hi.map ρ) (mx.map ρ)) hg rel ?_
      rw[hmn,hx]
      exact j8s hb hu hlo hhi hl hr hlr.1 hlr.2
     ·simp at hs
    ·simp at hs
   ·rename_i _ heq
    simp at *
   ·rename_i _ heq
    simp at *
   ·simp at hs
  ·simp at hc
 ·rename_i e hu
  split at hc
  ·rename_i sz x1 lo1 hi1 mx1 hsz h1 h2 h3 h4
   simp at hc
   subst hc
   have hx:=z1b ht h1
   have hlo:=q2k ht h2
   have hhi:=q2k ht h3
   have hmx:=q2k ht h4
   simp only[prim,x5,Prod.mk.injEq] at hp
   obtain⟨v',hs,rfl,rfl⟩:=hp
   unfold z2v at hs
   split at hs
   ·simp at *
   ·rename_i esz xs tp he heq
    simp at he
    subst he
    rw[heq] at hx
    split at hs
    ·rename_i l r hl hr
     split at hs
     ·rename_i hcond
      obtain⟨hlr,hrx,hh⟩:=hcond
      split at hs
      ·rename_i hm
       simp at hs
       subst hs
       have hmn:mx.map ρ=none:=by
        cases mx with
        | none=>rfl
        | some m=>
          simp[q7k] at h4
          obtain⟨q,_,rfl⟩:=h4
          simp at hm
       intro _ _ _ _ _
       refine Step.val (s:=Instr.sliceAt t (ρ x) (lo.map ρ) (hi.map ρ) (mx.map ρ)) hg rel ?_
       rw[hmn]
       refine j2s (m:=0) hx hu hsz hh hlr hrx (fun c hc=> ?_) (.inl ⟨rfl, ?_⟩)
       ·rw[if_pos rfl]
        exact z9k hlo hhi hl hr hlr (by omega)
       ·split
        ·split
         ·rename_i h;rw[h]
         ·rfl
        ·rfl
      ·rename_i m hm
       split at hs
       ·rename_i m' hbm
        split at hs
        ·rename_i hmr
         simp at hs
         subst hs
         obtain⟨rfl,hhs⟩:=hmr
         intro _ _ _ _ _
         refine Step.val (s:=Instr.sliceAt t (ρ x) (lo.map ρ) (hi.map ρ) (mx.map ρ)) hg rel ?_
         rw[hm] at hmx
         refine j2s (m:=1) hx hu hsz hh hlr hrx (fun c hc=> ?_) (.inr ⟨by omega,rfl⟩)
         rw[if_neg (by omega)]
         exact q8k (mx:=some m) hlo hhi hmx hl hr hbm (by simpa using hhs) rfl hlr (by omega)
        ·simp at hs
       ·simp at hs
     ·simp at hs
    ·simp at hs
   ·rename_i esz s g off len he heq
    simp at he
    subst he
    rw[heq] at hx
    split at hs
    ·rename_i es grow fz l r hb hl hr hm
     have hs':(l≤r∧z5m sz es=true∧(if grow then r≤len∧off + len≤es.length else off + r≤es.length))∧AV.ob s g (off + l) (r - l)=v':=by
      by_cases hcond:(l≤r∧z5m sz es=true∧(if grow then r≤len∧off + len≤es.length else off + r≤es.length))
      ·rw[if_pos hcond] at hs
       exact⟨hcond,by simpa using hs⟩
      ·rw[if_neg hcond] at hs
       simp at hs
     obtain⟨hcond,rfl⟩:=hs'
     have hmn:mx.map ρ=none:=by
      cases mx with
      | none=>rfl
      | some m=>
        simp[q7k] at h4
        obtain⟨q,_,rfl⟩:=h4
        simp at hm
     intro _ _ _ _ _
     refine Step.val (s:=Instr.sliceAt t (ρ x) (lo.map ρ) (hi.map ρ) (mx.map ρ)) hg rel ?_
     rw[hmn]
     exact k4s rel hx hu hsz hb hcond.2.1 hlo hhi hl hr hcond.1 hcond.2.2
    ·simp at hs
   ·simp at hs
  ·simp at hc
 ·simp at hc
theorem x7h {t:TypeId} {x:Operand} {f:Nat} {a:AOp} (hg:G gen=none) (rel:Rel G I h w) (ht:TR G I ts ρ) (hc:cOp P back n mu (.fieldAddr t x f)=some a) (hp:prim h base gen ts a=some (v,h')):Does P G I h w gen slot ρ (.fieldAddr t x f) v h':=by
 simp only[cOp] at hc
 split at hc
 ·rename_i o ft x1 hf h1
  split at hc
  ·rename_i m hs
   simp at hc
   subst hc
   have hx:=z1b ht h1
   simp only[prim] at hp
   split at hp
   ·rename_i s g i o' heq
    rw[heq] at hx
    simp at hp
    obtain⟨rfl,rfl⟩:=hp
    simp only[VR] at hx
    obtain⟨gi,h2,h3,h4⟩:=hx
    intro _ _ _ _ _
    refine Step.val (s:=Instr.fieldAt t (ρ x) f) hg rel ⟨_,by rw[h4];exact x2d hf hs, ?_⟩
    simp only[VR]
    exact⟨gi,h2,h3,by rw[d3]⟩
   ·rename_i cs o' heq
    rw[heq] at hx
    simp at hp
    obtain⟨rfl,rfl⟩:=hp
    simp only[VR] at hx
    obtain⟨b,p,h4,h5⟩:=hx
    intro _ _ _ _ _
    refine Step.val (s:=Instr.fieldAt t (ρ x) f) hg rel ⟨_,by rw[h4];exact x2d hf hs, ?_⟩
    simp only[VR]
    exact⟨b,p,by rw[d3],h5⟩
   ·simp at hp
  ·simp at hc
 ·simp at hc
theorem k5b {t:TypeId} {x:Operand} {f:Nat} {a:AOp} (hg:G gen=none) (rel:Rel G I h w) (ht:TR G I ts ρ) (hc:cOp P back n mu (.field t x f)=some a) (hp:prim h base gen ts a=some (v,h')):Does P G I h w gen slot ρ (.field t x f) v h':=by
 simp only[cOp] at hc
 split at hc
 ·rename_i o ft x1 hf h1
  simp only[x5] at hc
  obtain⟨l,hl,rfl⟩:=hc
  have hx:=z1b ht h1
  simp only[prim] at hp
  split at hp
  ·rename_i cs heq
   rw[heq] at hx
   simp only[x5,Prod.mk.injEq] at hp
   obtain⟨v',hr,rfl,rfl⟩:=hp
   intro _ _ _ _ _
   exact Step.val (s:=Instr.field t (ρ x) f) hg rel (k4r hx hf hl hr)
  ·simp at hp
 ·simp at hc
theorem x7i {t:TypeId} {x ix:Operand} {a:AOp} (hg:G gen=none) (rel:Rel G I h w) (ht:TR G I ts ρ) (hc:cOp P back n mu (.indexAddr t x ix)=some a) (hp:prim h base gen ts a=some (v,h')):Does P G I h w gen slot ρ (.indexAddr t x ix) v h':=by
 have key:∀ {arr:Option Nat} {s:Nat} {x1 i1:AOpd},z5x x=some x1→z5x ix=some i1→a= .indexAddr arr s x1 i1→((arr=none∧∃ e,P.underlying t=some (.slice e)∧sizeP P e=some s)∨∃ m e,arr=some m∧P.underlying t=some (.array m e)∧sizeP P e=some s)→
   Does P G I h w gen slot ρ (.indexAddr t x ix) v h':=by
  intro arr s x1 i1 h1 h2 ha hu
  subst ha
  have hx:=z1b ht h1
  have hi:=z1b ht h2
  simp only[prim] at hp
  split at hp
  ·rename_i k i heqi
   rw[heqi] at hi
   simp only[VR] at hi
   split at hp
   ·rename_i h0
    rcases hu with ⟨rfl,e,hu,hs⟩ | ⟨m,e,rfl,hu,hs⟩
    ·split at hp
     ·rename_i xs tp _ heq
      rw[heq] at hx
      split at hp
      ·rename_i y hy
       split at hp
       ·rename_i hl
        simp at hp
        obtain⟨rfl,rfl⟩:=hp
        intro _ _ _ _ _
        refine Step.val (s:=Instr.indexAt t (ρ x) (ρ ix)) hg rel ?_
        rw[hi]
        exact j6a hu hs hx h0 hy hl
       ·simp at hp
      ·simp at hp
     ·rename_i s' g off len _ heq
      rw[heq] at hx
      split at hp
      ·rename_i es grow fz hb
       split at hp
       ·rename_i y hy
        split at hp
        ·rename_i hl
         simp at hp
         obtain⟨rfl,rfl⟩:=hp
         intro _ _ _ _ _
         refine Step.val (s:=Instr.indexAt t (ρ x) (ρ ix)) hg rel ?_
         rw[hi]
         exact j6b rel hu hs hx hb h0 hy hl.1 hl.2
        ·simp at hp
       ·simp at hp
      ·simp at hp
     ·simp at *
     ·simp at *
     ·simp at hp
    ·split at hp
     ·simp at *
     ·simp at *
     ·rename_i m' s' g k' o he heq
      simp at he
      subst he
      rw[heq] at hx
      split at hp
      ·rename_i hlt
       simp at hp
       obtain⟨rfl,rfl⟩:=hp
       simp only[VR] at hx
       obtain⟨gi,h3,h4,h5⟩:=hx
       intro _ _ _ _ _
       refine Step.val (s:=Instr.indexAt t (ρ x) (ρ ix)) hg rel ⟨_,by rw[hi,h5];exact q8l hu hs h0 hlt, ?_⟩
       simp only[VR]
       exact⟨gi,h3,h4,by rw[d3]⟩
      ·simp at hp
     ·rename_i m' cs o he heq
      simp at he
      subst he
      rw[heq] at hx
      split at hp
      ·rename_i hlt
       simp at hp
       obtain⟨rfl,rfl⟩:=hp
       simp only[VR] at hx
       obtain⟨b,p,h4,h5⟩:=hx
       intro _ _ _ _ _
       refine Step.val (s:=Instr.indexAt t (ρ x) (ρ ix)) hg rel ⟨_,by rw[hi,h4];exact q8l hu hs h0 hlt, ?_⟩
       simp only[VR]
       exact⟨b,p,by rw[d3],h5⟩
      ·simp at hp
     ·simp at hp
   ·simp at hp
  ·simp at hp
 simp only[cOp] at hc
 split at hc
 ·rename_i x1 i1 h1 h2
  split at hc
  ·rename_i e hu
   split at hc
   ·rename_i s hs
    split at hc
    ·simp at hc
    ·simp at hc
     exact key h1 h2 hc.symm (.inl ⟨rfl,e,hu,hs⟩)
   ·simp at hc
  ·rename_i m e hu
   split at hc
   ·rename_i s hs
    split at hc
    ·simp at hc
    ·simp at hc
     exact key h1 h2 hc.symm (.inr ⟨m,e,rfl,hu,hs⟩)
   ·simp at hc
  ·simp at hc
 ·simp at hc
theorem k5c {t:TypeId} {x ix:Operand} {a:AOp} (hg:G gen=none) (rel:Rel G I h w) (ht:TR G I ts ρ) (hc:cOp P back n mu (.index t x ix)=some a) (hp:prim h base gen ts a=some (v,h')):Does P G I h w gen slot ρ (.index t x ix) v h':=by
 simp only[cOp] at hc
 split at hc
 ·rename_i x1 i1 h1 h2
  have hx:=z1b ht h1
  have hi:=z1b ht h2
  split at hc
  ·rename_i hu
   simp at hc
   subst hc
   simp only[prim] at hp
   split at hp
   ·rename_i k i heqi
    rw[heqi] at hi
    simp only[VR] at hi
    split at hp
    ·rename_i h0
     split at hp
     ·rename_i s _ heq
      rw[heq] at hx
      simp only[x5,Prod.mk.injEq] at hp
      obtain⟨b,hb,rfl,rfl⟩:=hp
      intro _ _ _ _ _
      refine Step.val (s:=Instr.index t (ρ x) (ρ ix)) hg rel ?_
      rw[hi]
      exact x9r hu hx h0 hb
     ·simp at *
     ·simp at hp
    ·simp at hp
   ·simp at hp
  ·rename_i m e hu
   split at hc
   ·rename_i s l hs hl
    split at hc
    ·simp at hc
    ·simp at hc
     subst hc
     simp only[prim] at hp
     split at hp
     ·rename_i k i heqi
      rw[heqi] at hi
      simp only[VR] at hi
      split at hp
      ·rename_i h0
       split at hp
       ·simp at *
       ·rename_i m' s' l' cs he heq
        simp at he
        obtain⟨rfl,rfl,rfl⟩:=he
        rw[heq] at hx
        split at hp
        ·rename_i hlt
         simp only[x5,Prod.mk.injEq] at hp
         obtain⟨v',hr,rfl,rfl⟩:=hp
         intro _ _ _ _ _
         refine Step.val (s:=Instr.index t (ρ x) (ρ ix)) hg rel ?_
         rw[hi]
         exact x9q hu hs hl hx h0 hlt hr
        ·simp at hp
       ·simp at hp
      ·simp at hp
     ·simp at hp
   ·simp at hc
  ·simp at hc
 ·simp at hc
theorem j0a {f:Fn} {first cap:Array Operand} {a:AOp} (hg:G gen=none) (rel:Rel G I h w) (ht:TR G I ts ρ) (hc:cOp P back n mu (.makeFunc f first cap)=some a) (hp:prim h base gen ts a=some (v,h')):Does P G I h w gen slot ρ (.makeFunc f first cap) v h':=by
 cases f <;> simp only[cOp] at hc <;> try (simp at hc;done)
 rename_i f
 split at hc
 ·rename_i hfirst
  simp only[x5] at hc
  obtain⟨xs,h1,rfl⟩:=hc
  simp[prim] at hp
  obtain⟨rfl,rfl⟩:=hp
  have hf:first= #[]:=by simpa using hfirst.1
  subst hf
  intro _ _ _ _ _
  refine Step.val (s:=Instr.makeFunc (.func f) ((#[]:Array Operand).map ρ) (cap.map ρ)) hg rel ⟨.func (.func f) #[] (cap.map ρ),by simp[Instr.makeFunc], ?_⟩
  simp only[VR,j8f hfirst.2]
  refine⟨_,rfl, ?_⟩
  have:=q7q ht h1
  simpa using this
 ·simp at hc
theorem j6g {x:Operand} {i:Nat} {a:AOp} (hg:G gen=none) (rel:Rel G I h w) (ht:TR G I ts ρ) (hc:cOp P back n mu (.extract x i)=some a) (hp:prim h base gen ts a=some (v,h')):Does P G I h w gen slot ρ (.extract x i) v h':=by
 simp only[cOp,x5] at hc
 obtain⟨b,h1,rfl⟩:=hc
 have hx:=z1b ht h1
 simp only[prim] at hp
 split at hp
 ·rename_i cs heq
  rw[heq] at hx
  simp only[x5,Prod.mk.injEq] at hp
  obtain⟨v',hr,rfl,rfl⟩:=hp
  intro _ _ _ _ _
  exact Step.val (s:=Instr.extract (ρ x) i) hg rel (j6c hx hr)
 ·simp at hp
theorem z6d {b:Builtin} {args:Array Operand} {tys:Array TypeId} {ρ:Operand→Value} {dst:Option Nat} {ty:TypeId} {pos:String} {after:Array Edge} {guard:Option (Nat×Bool)}:
 execOp ρ ⟨dst, .call ⟨.builtin b,args,tys⟩,ty,pos,after,guard⟩=builtin b tys ty (args.map fun | .const _=>true | _=>false) (args.map ρ):=rfl
theorem y4q {ρ:Operand→Value} {x:Operand}:(⟨[x]⟩:Array Operand).map ρ= #[ρ x]:=by simp
theorem y4f {ρ:Operand→Value} {x y:Operand}:(⟨[x,y]⟩:Array Operand).map ρ= #[ρ x,ρ y]:=by simp
theorem j6h {b:Builtin} {args:Array Operand} {tys:Array TypeId} {a:AOp} (hg:G gen=none) (rel:Rel G I h w) (ht:TR G I ts ρ) (hc:q4g P b args.toList tys.toList n mu=some a) (hp:prim h base gen ts a=some (v,h')):
  Does P G I h w gen (base + n) ρ (.call ⟨.builtin b,args,tys⟩) v h':=by
 obtain⟨args⟩:=args
 obtain⟨tys⟩:=tys
 simp only at hc
 unfold q4g at hc
 split at hc
 ·rename_i x t
  have key:∀ {l:LenTy} {x1:AOpd},z5x x=some x1→a= .len l x1→((P.underlying t=some .string∧l= .str)∨(∃ e,P.underlying t=some (.slice e)∧l= .sl)∨(∃ k e,P.underlying t=some (.map k e)∧l= .mp)∨(∃ n e,P.underlying t=some (.array n e)∧l= .arr n)∨
   (∃ p n e,P.underlying t=some (.pointer p)∧P.underlying p=some (.array n e)∧l= .arr n))→Does P G I h w gen (base + n) ρ (.call ⟨.builtin .len,⟨[x]⟩,⟨[t]⟩⟩) v h':=by
   intro l x1 h1 ha hu
   subst ha
   simp only[prim,x5,Prod.mk.injEq] at hp
   obtain⟨v',hl,rfl,rfl⟩:=hp
   intro _ ty _ _ _
   rw[z6d,y4q]
   exact Step.val (s:=Builtin.len_ #[t] ty #[ρ x]) hg rel (w2m rel (z1b ht h1) hu hl)
  split at hc
  ·rename_i hu
   simp only[x5] at hc
   obtain⟨x1,h1,h2⟩:=hc
   exact key h1 h2.symm (.inl ⟨hu,rfl⟩)
  ·rename_i e hu
   simp only[x5] at hc
   obtain⟨x1,h1,h2⟩:=hc
   exact key h1 h2.symm (.inr (.inl ⟨e,hu,rfl⟩))
  ·rename_i k e hu
   simp only[x5] at hc
   obtain⟨x1,h1,h2⟩:=hc
   exact key h1 h2.symm (.inr (.inr (.inl ⟨k,e,hu,rfl⟩)))
  ·rename_i m e hu
   simp only[x5] at hc
   obtain⟨x1,h1,h2⟩:=hc
   exact key h1 h2.symm (.inr (.inr (.inr (.inl ⟨m,e,hu,rfl⟩))))
  ·rename_i p hu
   split at hc
   ·rename_i m e hu2
    simp only[x5] at hc
    obtain⟨x1,h1,h2⟩:=hc
    exact key h1 h2.symm (.inr (.inr (.inr (.inr ⟨p,m,e,hu,hu2,rfl⟩))))
   ·simp at hc
  ·simp at hc
 ·rename_i x t
  split at hc
  ·rename_i e hu
   simp only[x5] at hc
   obtain⟨x1,h1,rfl⟩:=hc
   simp only[prim,x5,Prod.mk.injEq] at hp
   obtain⟨v',hl,rfl,rfl⟩:=hp
   intro _ ty _ _ _
   rw[z6d,y4q]
   exact Step.val (s:=Builtin.cap_ #[t] ty #[ρ x]) hg rel (w2n (z1b ht h1) hu hl)
  ·simp at hc
 ·rename_i x y t u
  split at hc
  ·rename_i k x1 y1 _ h1 h2
   simp at hc
   subst hc
   have hx:=z1b ht h1
   have hy:=z1b ht h2
   simp only[prim] at hp
   split at hp
   ·rename_i k1 i k2 j heq1 heq2
    rw[heq1] at hx
    rw[heq2] at hy
    simp only[VR] at hx hy
    simp only[Option.some.injEq,Prod.mk.injEq] at hp
    obtain⟨rfl,rfl⟩:=hp
    intro _ ty _ _ _
    rw[z6d,y4f,hx,hy]
    have:=x6u (P:=P) (w:=w) (mx:=true) (k:=k1) (j:=k2) (a:=i) (b:=j) (tys:= #[t,u]) (ty:=ty)
    exact Step.val (s:=Builtin.max_ #[t,u] ty #[.int k1 i, .int k2 j]) hg rel ⟨_,this,by simp[VR]⟩
   ·simp at hp
  ·simp at hc
 ·rename_i x y t u
  split at hc
  ·rename_i k x1 y1 _ h1 h2
   simp at hc
   subst hc
   have hx:=z1b ht h1
   have hy:=z1b ht h2
   simp only[prim] at hp
   split at hp
   ·rename_i k1 i k2 j heq1 heq2
    rw[heq1] at hx
    rw[heq2] at hy
    simp only[VR] at hx hy
    simp only[Option.some.injEq,Prod.mk.injEq] at hp
    obtain⟨rfl,rfl⟩:=hp
    intro _ ty _ _ _
    rw[z6d,y4f,hx,hy]
    have:=x6u (P:=P) (w:=w) (mx:=false) (k:=k1) (j:=k2) (a:=i) (b:=j) (tys:= #[t,u]) (ty:=ty)
    exact Step.val (s:=Builtin.min_ #[t,u] ty #[.int k1 i, .int k2 j]) hg rel ⟨_,this,by simp[VR]⟩
   ·simp at hp
  ·simp at hc
 ·rename_i x y t u
  have key:∀ {e:TypeId},P.underlying t=some (.slice e)→((∃ e',P.underlying u=some (.slice e'))∨P.underlying u=some .string)→
    (match sizeP P e,bytesP P e,zeroP P e,z5x x,z5x y with
     | some sz,some by_,some z,some a,some b=>if sz≠0∧z.cells.length=sz then some (AOp.append n sz by_ mu a b) else none
     | _,_,_,_,_=>none)=some a→Does P G I h w gen (base + n) ρ (.call ⟨.builtin .append,⟨[x,y]⟩,⟨[t,u]⟩⟩) v h':=by
   intro e hu hk hc
   split at hc
   ·rename_i sz by_ z x1 y1 hs hb hz h1 h2
    split at hc
    ·rename_i hcond
     simp at hc
     subst hc
     simp only[prim] at hp
     intro _ ty _ _ _
     rw[z6d,y4f]
     exact x9v (P:=P) (t:=t) (tx:=u) (ty:=ty) (e:=e) ⟨hu,hk,hs,hb,hz,hcond.2,by have:=hcond.1;omega⟩ hg rel (z1b ht h1) (z1b ht h2) hp rfl
    ·simp at hc
   ·simp at hc
  split at hc
  ·rename_i e _ hu hu2
   exact key hu (.inl ⟨_,hu2⟩) hc
  ·rename_i e hu hu2
   exact key hu (.inr hu2) hc
  ·rename_i e k hu hu2
   split at hc
   ·rename_i sz by_ z x1 y1 hs hb hz h1 h2
    split at hc
    ·rename_i hcond
     simp at hc
     subst hc
     have hx:=z1b ht h1
     have hy:=z1b ht h2
     simp only[prim] at hp
     split at hp
     ·rename_i j m heq1 heq2
      rw[heq1] at hx
      rw[heq2] at hy
      simp only[VR] at hx hy
      obtain⟨A,n',c,hx,hn',_,htip,_⟩:=hx
      simp only[TipR] at htip
      obtain⟨rfl,_,rfl⟩:=htip
      simp only[List.length_nil] at hn'
      subst hn'
      intro _ ty _ _ _
      rw[z6d,y4f,hx,hy]
      split at hp
      ·rename_i hm
       simp only[Option.some.injEq,Prod.mk.injEq] at hp
       obtain⟨rfl,rfl⟩:=hp
       subst hm
       refine Step.val (s:=Builtin.append_ #[t,u] ty #[.slice none 0 0, .int j 0]) hg rel ⟨.slice none 0 0, ?_, ?_⟩
       ·obtain⟨ti,zv,hi,hzv,_⟩:=z9a (G:=G) (I:=I) hz
        have hw0:IntKind.i64.wrap 0=0:=IntWalk.i64_in _ (by omega)
        simp[Builtin.append_,run_underlying hu,run_underlying hu2,sizeOf,typeInfo,hi,asInt,asIntOf,hw0]
       ·simp only[VR]
        exact⟨none,0,0,rfl,rfl,Nat.le_refl _,⟨rfl,rfl,rfl⟩, .inl rfl⟩
      ·split at hp
       ·rename_i hm
        simp only[Option.some.injEq,Prod.mk.injEq] at hp
        obtain⟨rfl,rfl⟩:=hp
        obtain⟨hm0,hroom,hzd⟩:=hm
        obtain⟨q,rfl⟩:∃ q:Nat,m=q:=⟨m.toNat,by omega⟩
        rw[Int.toNat_natCast]
        exact x9t (t:=t) (tx:=u) (ty:=ty) (j:=j) hu hu2 hs hb hz hcond.2 hzd (by have:=hcond.1;omega) hg rel (by omega) (by
         have:((q * (by_ + 1):Nat):Int)≤(z1e:Int):=by
          rw[Int.natCast_mul]
          exact hroom
         omega) rfl
       ·simp at hp
     ·simp at hp
    ·simp at hc
   ·simp at hc
  ·simp at hc
 ·simp at hc
def AOp.plain:AOp→Bool
 | .call .. | .callv .. | .backward .. =>false
 | _=>true
theorem v4v {op:Op} {a:AOp} (hg:G gen=none) (rel:Rel G I h w) (ht:TR G I ts ρ) (hc:cOp P back n mu op=some a) (hpl:a.plain=true) (hp:prim h base gen ts a=some (v,h')):Does P G I h w gen (base + n) ρ op v h':=by
 cases op with
 | move x=>exact (j8z hg rel ht (by simpa only[cOp] using hc) hp).1
 | assign x=>exact (j8z hg rel ht (by simpa only[cOp] using hc) hp).2
 | pick c x y=>exact v4s hg rel ht hc hp
 | alloc t=>exact k4w hg rel hc hp
 | box t x=>exact w2o hg rel ht hc hp
 | build t ps=>exact k4x hg rel ht hc hp
 | buildSlice t m ps=>exact x4d hg rel ht hc hp
 | load t x=>exact v4t hg rel ht hc hp
 | store t x y=>exact k4y hg rel ht hc hp
 | nilCheck x=>exact x9z hg rel ht hc hp
 | binOp op t x y yt=>exact k4z hg rel ht hc hp
 | unOp op t x=>exact v4u hg rel ht hc hp
 | convert s d x=>exact j6e hg rel ht hc hp
 | makeFunc f a b=>exact j0a hg rel ht hc hp
 | makeMap t r=>exact j6f hg rel hc hp
 | makeSlice t l c=>exact x7g hg rel ht hc hp
 | slice t x lo hi mx=>exact k5a hg rel ht hc hp
 | fieldAddr t x f=>exact x7h hg rel ht hc hp
 | field t x f=>exact k5b hg rel ht hc hp
 | indexAddr t x ix=>exact x7i hg rel ht hc hp
 | index t x ix=>exact k5c hg rel ht hc hp
 | lookup t x ix ok=>exact j9a hg rel ht hc hp
 | mapUpdate t m k x=>exact x7f hg rel ht hc hp
 | extract x i=>exact j6g hg rel ht hc hp
 | call c=>
   obtain⟨callee,args,tys⟩:=c
   cases callee with
   | builtin b=>exact j6h hg rel ht (by simpa only[cOp] using hc) hp
   | invoke r m=>simp[cOp] at hc
   | value f=>
     cases f with
     | tmp t=>
       simp only[cOp,x5] at hc
       obtain⟨xs,_,rfl⟩:=hc
       simp[AOp.plain] at hpl
     | func f=>
       simp only[cOp] at hc
       split at hc
       ·split at hc
        ·simp only[x5] at hc
         obtain⟨xs,_,rfl⟩:=hc
         simp[AOp.plain] at hpl
        ·simp at hc
       ·split at hc
        ·simp only[x5] at hc
         obtain⟨xs,_,rfl⟩:=hc
         simp[AOp.plain] at hpl
        ·simp at hc
     | const v=>simp[cOp] at hc
     | global g=>simp[cOp] at hc
 | _=>simp[cOp] at hc
end
section
def j0b (G G':Ghost) (n:Nat):Prop:=∀ g i,G g=some i→i.slot < n→G' g=some i
theorem q4k {v:AV}:∀ {vs:List AV},v∈vs→∀ s∈v.ids,s∈z0i vs
 | [],hv,_,_=>by simp at hv
 | x::xs,hv,s,hs=>by
   simp only[z0i,x4]
   rcases j6.1 hv with rfl | hv
   ·exact .inl hs
   ·exact .inr (q4k hv s hs)
mutual
theorem VR.keep {G G':Ghost} {I:Imm} {n:Nat} (hk:j0b G G' n):∀ {x:AV} {v:Value},(∀ s∈x.ids,s < n)→VR G I x v→VR G' I x v
 | .undef,_,_,_=>by simp[VR]
 | .int ..,_,_,h=>by simpa [VR] using h
 | .bool _,_,_,h=>by simpa [VR] using h
 | .str _,_,_,h=>by simpa only[VR] using h
 | .agg _,_,hi,h=>by
   simp only[VR] at h⊢
   obtain⟨vs,rfl,h⟩:=h
   exact⟨vs,rfl,VRL.keep hk (by simpa only[AV.ids] using hi) h⟩
 | .tup _,_,hi,h=>by
   simp only[VR] at h⊢
   obtain⟨vs,rfl,h⟩:=h
   exact⟨vs,rfl,VRL.keep hk (by simpa only[AV.ids] using hi) h⟩
 | .sl xs t,_,hi,h=>by
   simp only[VR] at h⊢
   obtain⟨A,m,c,rfl,h1,h2,h3,h4⟩:=h
   refine⟨A,m,c,rfl,h1,h2, ?_, ?_⟩
   ·cases t with
    | «at» s g=>
      obtain⟨i,g1,g2,g3⟩:=h3
      exact⟨i,hk g i g1 (by rw[g2];exact hi s (by simp[AV.ids])),g2,g3⟩
    | no=>exact h3
    | full=>exact h3
    | nil=>exact h3
    | nn=>exact h3
   ·rcases h4 with h4 | ⟨b,o,e,h5,h6,h7⟩
    ·exact .inl h4
    ·exact .inr ⟨b,o,e,h5,h6,RowI.keep hk (fun s hs=>hi s (by simp only[AV.ids,x4];exact .inr hs)) h7⟩
 | .ob s ..,_,hi,h=>by
   simp only[VR] at h⊢
   obtain⟨i,A,c,h1,h2,h3⟩:=h
   exact⟨i,A,c,hk _ i h1 (by rw[h2];exact hi s (by simp[AV.ids])),h2,h3⟩
 | .ptr s ..,_,hi,h=>by
   simp only[VR] at h⊢
   obtain⟨i,h1,h2,h3⟩:=h
   exact⟨i,hk _ i h1 (by rw[h2];exact hi s (by simp[AV.ids])),h2,h3⟩
 | .iptr _ _,_,hi,h=>by
   simp only[VR] at h⊢
   obtain⟨b,p,rfl,h⟩:=h
   exact⟨b,p,rfl,CellsI.keep hk (by simpa only[AV.ids] using hi) h⟩
 | .nilptr,_,_,h=>by simpa [VR] using h
 | .mp s _,_,hi,h=>by
   simp only[VR] at h⊢
   obtain⟨i,h1,h2,h3⟩:=h
   exact⟨i,hk _ i h1 (by rw[h2];exact hi s (by simp[AV.ids])),h2,h3⟩
 | .nilmap,_,_,h=>by simpa [VR] using h
 | .fn _ _,_,hi,h=>by
   simp only[VR] at h⊢
   obtain⟨vs,rfl,h⟩:=h
   exact⟨vs,rfl,VRL.keep hk (by simpa only[AV.ids] using hi) h⟩
 | .nilfn,_,_,h=>by simpa [VR] using h
 | .nilif,_,_,h=>by simpa [VR] using h
 | .bwd _ _,_,hi,h=>by
   simp only[VR] at h⊢
   obtain⟨b,y,rfl,h1,h2⟩:=h
   exact⟨b,y,rfl,h1,VR.keep hk (by simpa only[AV.ids] using hi) h2⟩
theorem VRL.keep {G G':Ghost} {I:Imm} {n:Nat} (hk:j0b G G' n):∀ {xs:List AV} {vs:List Value},(∀ s∈z0i xs,s < n)→VRL G I xs vs→VRL G' I xs vs
 | [],_,_,h=>by simpa [VRL] using h
 | _::_,_,hi,h=>by
   simp only[VRL] at h⊢
   obtain⟨v,ws,rfl,h1,h2⟩:=h
   exact⟨v,ws,rfl,VR.keep hk (fun s hs=>hi s (by simp only[z0i,x4];exact .inl hs)) h1,VRL.keep hk (fun s hs=>hi s (by simp only[z0i,x4];exact .inr hs)) h2⟩
theorem RowI.keep {G G':Ghost} {I:Imm} {n:Nat} (hk:j0b G G' n):∀ {xs:List AV} {b o e:Nat},(∀ s∈z0i xs,s < n)→RowI G I xs b o e→RowI G' I xs b o e
 | [],_,_,_,_,_=>j2n
 | .agg _::_,_,_,_,hi,h=>by
   simp only[RowI] at h⊢
   exact⟨h.1,CellsI.keep hk (fun s hs=>hi s (by simp only[z0i,AV.ids,x4];exact .inl hs)) h.2.1,RowI.keep hk (fun s hs=>hi s (by simp only[z0i,x4];exact .inr hs)) h.2.2⟩
 | .undef::_,_,_,_,hi,h=>by
   simp only[RowI] at h⊢
   obtain⟨h1,⟨v,h2,h3⟩,h4⟩:=h
   exact⟨h1,⟨v,h2,VR.keep hk (fun s hs=>hi s (by simp only[z0i,x4];exact .inl hs)) h3⟩,RowI.keep hk (fun s hs=>hi s (by simp only[z0i,x4];exact .inr hs)) h4⟩
 | .int .. ::_,_,_,_,hi,h=>by
   simp only[RowI] at h⊢
   obtain⟨h1,⟨v,h2,h3⟩,h4⟩:=h
   exact⟨h1,⟨v,h2,VR.keep hk (fun s hs=>hi s (by simp only[z0i,x4];exact .inl hs)) h3⟩,RowI.keep hk (fun s hs=>hi s (by simp only[z0i,x4];exact .inr hs)) h4⟩
 | .bool _::_,_,_,_,hi,h=>by
   simp only[RowI] at h⊢
   obtain⟨h1,⟨v,h2,h3⟩,h4⟩:=h
   exact⟨h1,⟨v,h2,VR.keep hk (fun s hs=>hi s (by simp only[z0i,x4];exact .inl hs)) h3⟩,RowI.keep hk (fun s hs=>hi s (by simp only[z0i,x4];exact .inr hs)) h4⟩
 | .str _::_,_,_,_,hi,h=>by
   simp only[RowI] at h⊢
   obtain⟨h1,⟨v,h2,h3⟩,h4⟩:=h
   exact⟨h1,⟨v,h2,VR.keep hk (fun s hs=>hi s (by simp only[z0i,x4];exact .inl hs)) h3⟩,RowI.keep hk (fun s hs=>hi s (by simp only[z0i,x4];exact .inr hs)) h4⟩
 | .tup _::_,_,_,_,hi,h=>by
   simp only[RowI] at h⊢
   obtain⟨h1,⟨v,h2,h3⟩,h4⟩:=h
   exact⟨h1,⟨v,h2,VR.keep hk (fun s hs=>hi s (by simp only[z0i,x4];exact .inl hs)) h3⟩,RowI.keep hk (fun s hs=>hi s (by simp only[z0i,x4];exact .inr hs)) h4⟩
 | .sl _ _::_,_,_,_,hi,h=>by
   simp only[RowI] at h⊢
   obtain⟨h1,⟨v,h2,h3⟩,h4⟩:=h
   exact⟨h1,⟨v,h2,VR.keep hk (fun s hs=>hi s (by simp only[z0i,x4];exact .inl hs)) h3⟩,RowI.keep hk (fun s hs=>hi s (by simp only[z0i,x4];exact .inr hs)) h4⟩
 | .ob .. ::_,_,_,_,hi,h=>by
   simp only[RowI] at h⊢
   obtain⟨h1,⟨v,h2,h3⟩,h4⟩:=h
   exact⟨h1,⟨v,h2,VR.keep hk (fun s hs=>hi s (by simp only[z0i,x4];exact .inl hs)) h3⟩,RowI.keep hk (fun s hs=>hi s (by simp only[z0i,x4];exact .inr hs)) h4⟩
 | .ptr .. ::_,_,_,_,hi,h=>by
   simp only[RowI] at h⊢
   obtain⟨h1,⟨v,h2,h3⟩,h4⟩:=h
   exact⟨h1,⟨v,h2,VR.keep hk (fun s hs=>hi s (by simp only[z0i,x4];exact .inl hs)) h3⟩,RowI.keep hk (fun s hs=>hi s (by simp only[z0i,x4];exact .inr hs)) h4⟩
 | .iptr _ _::_,_,_,_,hi,h=>by
   simp only[RowI] at h⊢
   obtain⟨h1,⟨v,h2,h3⟩,h4⟩:=h
   exact⟨h1,⟨v,h2,VR.keep hk (fun s hs=>hi s (by simp only[z0i,x4];exact .inl hs)) h3⟩,RowI.keep hk (fun s hs=>hi s (by simp only[z0i,x4];exact .inr hs)) h4⟩
 | .nilptr::_,_,_,_,hi,h=>by
   simp only[RowI] at h⊢
   obtain⟨h1,⟨v,h2,h3⟩,h4⟩:=h
   exact⟨h1,⟨v,h2,VR.keep hk (fun s hs=>hi s (by simp only[z0i,x4];exact .inl hs)) h3⟩,RowI.keep hk (fun s hs=>hi s (by simp only[z0i,x4];exact .inr hs)) h4⟩
 | .mp .. ::_,_,_,_,hi,h=>by
   simp only[RowI] at h⊢
   obtain⟨h1,⟨v,h2,h3⟩,h4⟩:=h
   exact⟨h1,⟨v,h2,VR.keep hk (fun s hs=>hi s (by simp only[z0i,x4];exact .inl hs)) h3⟩,RowI.keep hk (fun s hs=>hi s (by simp only[z0i,x4];exact .inr hs)) h4⟩
 | .nilmap::_,_,_,_,hi,h=>by
   simp only[RowI] at h⊢
   obtain⟨h1,⟨v,h2,h3⟩,h4⟩:=h
   exact⟨h1,⟨v,h2,VR.keep hk (fun s hs=>hi s (by simp only[z0i,x4];exact .inl hs)) h3⟩,RowI.keep hk (fun s hs=>hi s (by simp only[z0i,x4];exact .inr hs)) h4⟩
 | .fn _ _::_,_,_,_,hi,h=>by
   simp only[RowI] at h⊢
   obtain⟨h1,⟨v,h2,h3⟩,h4⟩:=h
   exact⟨h1,⟨v,h2,VR.keep hk (fun s hs=>hi s (by simp only[z0i,x4];exact .inl hs)) h3⟩,RowI.keep hk (fun s hs=>hi s (by simp only[z0i,x4];exact .inr hs)) h4⟩
 | .nilfn::_,_,_,_,hi,h=>by
   simp only[RowI] at h⊢
   obtain⟨h1,⟨v,h2,h3⟩,h4⟩:=h
   exact⟨h1,⟨v,h2,VR.keep hk (fun s hs=>hi s (by simp only[z0i,x4];exact .inl hs)) h3⟩,RowI.keep hk (fun s hs=>hi s (by simp only[z0i,x4];exact .inr hs)) h4⟩
 | .nilif::_,_,_,_,hi,h=>by
   simp only[RowI] at h⊢
   obtain⟨h1,⟨v,h2,h3⟩,h4⟩:=h
   exact⟨h1,⟨v,h2,VR.keep hk (fun s hs=>hi s (by simp only[z0i,x4];exact .inl hs)) h3⟩,RowI.keep hk (fun s hs=>hi s (by simp only[z0i,x4];exact .inr hs)) h4⟩
 | .bwd _ _::_,_,_,_,hi,h=>by
   simp only[RowI] at h⊢
   obtain⟨h1,⟨v,h2,h3⟩,h4⟩:=h
   exact⟨h1,⟨v,h2,VR.keep hk (fun s hs=>hi s (by simp only[z0i,x4];exact .inl hs)) h3⟩,RowI.keep hk (fun s hs=>hi s (by simp only[z0i,x4];exact .inr hs)) h4⟩
theorem CellsI.keep {G G':Ghost} {I:Imm} {n:Nat} (hk:j0b G G' n):∀ {cs:List AV} {b o:Nat},(∀ s∈z0i cs,s < n)→CellsI G I cs b o→CellsI G' I cs b o
 | [],_,_,_,_=>q2j
 | _::_,_,_,hi,h=>by
   simp only[CellsI] at h⊢
   obtain⟨⟨v,h1,h2⟩,h3⟩:=h
   exact⟨⟨v,h1,VR.keep hk (fun s hs=>hi s (by simp only[z0i,x4];exact .inl hs)) h2⟩,CellsI.keep hk (fun s hs=>hi s (by simp only[z0i,x4];exact .inr hs)) h3⟩
end
mutual
theorem VR.flat {G G':Ghost} {I I':Imm}:∀ {x:AV} {v:Value},x.flat=true→VR G I x v→VR G' I' x v
 | .undef,_,_,_=>by simp[VR]
 | .int ..,_,_,h=>by simpa [VR] using h
 | .bool _,_,_,h=>by simpa [VR] using h
 | .str _,_,_,h=>by simpa only[VR] using h
 | .agg _,_,hi,h=>by
   simp only[VR] at h⊢
   obtain⟨vs,rfl,h⟩:=h
   exact⟨vs,rfl,VRL.flat (by simpa only[AV.flat] using hi) h⟩
 | .tup _,_,hi,h=>by
   simp only[VR] at h⊢
   obtain⟨vs,rfl,h⟩:=h
   exact⟨vs,rfl,VRL.flat (by simpa only[AV.flat] using hi) h⟩
 | .sl _ _,_,hi,_=>by simp[AV.flat] at hi
 | .ob ..,_,hi,_=>by simp[AV.flat] at hi
 | .ptr ..,_,hi,_=>by simp[AV.flat] at hi
 | .iptr _ _,_,hi,_=>by simp[AV.flat] at hi
 | .nilptr,_,hi,_=>by simp[AV.flat] at hi
 | .mp ..,_,hi,_=>by simp[AV.flat] at hi
 | .nilmap,_,hi,_=>by simp[AV.flat] at hi
 | .fn _ _,_,hi,_=>by simp[AV.flat] at hi
 | .nilfn,_,hi,_=>by simp[AV.flat] at hi
 | .nilif,_,hi,_=>by simp[AV.flat] at hi
 | .bwd _ _,_,hi,_=>by simp[AV.flat] at hi
theorem VRL.flat {G G':Ghost} {I I':Imm}:∀ {xs:List AV} {vs:List Value},x6m xs=true→VRL G I xs vs→VRL G' I' xs vs
 | [],_,_,h=>by simpa [VRL] using h
 | _::_,_,hi,h=>by
   simp only[x6m,Bool.and_eq_true] at hi
   simp only[VRL] at h⊢
   obtain⟨v,ws,rfl,h1,h2⟩:=h
   exact⟨v,ws,rfl,VR.flat hi.1 h1,VRL.flat hi.2 h2⟩
end
section
variable {P:Program} {G:Ghost} {I:Imm} {h:List AObj} {w:World}
theorem x4e {x:AV} {s:Nat} {c:AV} (hc:c∈x.cells) (hs:s∈c.ids):s∈x.ids:=by
 by_cases ha:∃ cs,x= .agg cs
 ·obtain⟨cs,rfl⟩:=ha
  simp only[AV.cells] at hc
  simp only[AV.ids]
  exact q4k hc s hs
 ·rw[z7b fun cs e=>ha ⟨cs,e⟩] at hc
  simp at hc
  subst hc
  exact hs
theorem ObjR.keep {G':Ghost} {n s:Nat} {o:AObj} (hk:j0b G G' n) (hs:s < n) (hi:∀ k∈o.ids,k < n) (ho:ObjR G I w s o):ObjR G' I w s o:=by
 cases o with
 | dead=>trivial
 | blk g es row grow fz=>
   obtain⟨i,cs,t,h1,h2,h3,h4,h5,h6,h7,h8,h9,h10⟩:=ho
   refine⟨i,cs,t,hk g i h1 (by omega),h2,h3,h4,h5,h6,h7,h8,fun k x hx=>⟨(h9 k x hx).1,fun j c hj=> ?_⟩,h10⟩
   obtain⟨v,hv,hr⟩:=(h9 k x hx).2 j c hj
   exact⟨v,hv,VR.keep hk (fun q hq=>hi q (by simp only[AObj.ids];exact q4k (m6 hx) q (x4e (m6 hj) hq))) hr⟩
 | tip g e=>
   obtain⟨i,h1,h2,h3⟩:=ho
   exact⟨i,hk g i h1 (by omega),h2,h3⟩
 | map g es=>
   obtain⟨i,ents,clk,h1,h2,h3,h4⟩:=ho
   refine⟨i,ents,clk,hk g i h1 (by omega),h2,h3, ?_⟩
   obtain⟨hl,hg⟩:=x4c h4
   refine x9w hl fun j x e hx he=> ?_
   obtain⟨e',he',hr1,hr2⟩:=hg j x hx
   rw[he] at he'
   simp at he'
   subst he'
   have hm:=m6 hx
   refine⟨VR.keep hk (fun q hq=>hi q ?_) hr1,VR.keep hk (fun q hq=>hi q ?_) hr2⟩
   ·simp only[AObj.ids,x4]
    exact .inl (q4k (w0.2 ⟨x,hm,rfl⟩) q hq)
   ·simp only[AObj.ids,x4]
    exact .inr (q4k (w0.2 ⟨x,hm,rfl⟩) q hq)
structure Ran (base clk:Nat) (G:Ghost) (I:Imm) (h:List AObj) (w:World) (G':Ghost) (I':Imm) (h':List AObj) (w':World):Prop where
 rel:Rel G' I' h' w'
 gle:GLe G G'
 ile:ILe I I'
 slots:∀ g i,G' g=some i→G g=none→clk≤g∧base≤i.slot
 own:OwnLe G h w G' h'
 fr:Fr G h w w'
 ifr:IFr G h w I I'
theorem Ran.refl {base clk:Nat} (rel:Rel G I h w):Ran base clk G I h w G I h w:=
 ⟨rel,GLe.refl _,ILe.refl _,fun g i h1 h2=>by simp[h1] at h2,OwnLe.refl _ _ _,Fr.refl _ _ _,IFr.refl⟩
theorem Ran.trans {base base' clk clk':Nat} {G' G'':Ghost} {I' I'':Imm} {h' h'':List AObj} {w' w'':World} (a:Ran base clk G I h w G' I' h' w') (b:Ran base' clk' G' I' h' w' G'' I'' h'' w'') (hb:base≤base') (hc:clk≤clk'):
  Ran base clk G I h w G'' I'' h'' w'':=
 ⟨b.rel,a.gle.trans b.gle,a.ile.trans b.ile,fun g i h1 h2=>by
  cases hg:G' g with
  | none=>
    have:=b.slots g i h1 hg
    omega
  | some j=>
    have h3:=b.gle g j hg
    rw[h1] at h3
    simp at h3
    subst h3
    exact a.slots g i hg h2,
  a.own.trans a.fr.size b.own,a.fr.trans a.own b.fr,a.ifr.trans a.own a.fr.size b.ifr⟩
theorem Rel.part {h':List AObj} (rel:Rel G I h w) (hs:∀ (i:Nat) o,h'[i]? =some o→o= .dead∨h[i]? =some o):Rel G I h' w:=by
 refine⟨rel.imm,fun i o ho=> ?_,fun i j oi oj b hi hj h1 h2=> ?_⟩
 ·rcases hs i o ho with rfl | ho
  ·trivial
  ·exact rel.obj i o ho
 ·rcases hs i oi hi with rfl | hi
  ·simp[Am.own] at h1
  ·rcases hs j oj hj with rfl | hj
   ·simp[Am.own] at h2
   ·exact rel.inj i j oi oj b hi hj h1 h2
theorem z9b {T:List Nat}:∀ {h:List AObj} {k i:Nat},(maskFrom T k h)[i]? =(h[i]?).map fun o=>if T.contains (k + i) then o else .dead
 | [],k,i=>by simp[maskFrom]
 | o::h,k,i=>by
   cases i with
   | zero=>simp[maskFrom]
   | succ i=>
     simp only[maskFrom,l9,z9b]
     rw[show k + 1 + i=k + (i + 1) by omega]
theorem z8l {T:List Nat}:∀ {h:List AObj} {k:Nat},(maskFrom T k h).length=h.length
 | [],_=>rfl
 | o::h,k=>by simp[maskFrom,z8l]
theorem q4l {T:List Nat}:∀ {h h':List AObj} {k i:Nat},h.length≤h'.length→i < h.length→(z0n T k h h')[i]? =if T.contains (k + i) then h'[i]? else h[i]?
 | [],_,_,_,_,hi=>by simp at hi
 | o::h,[],_,_,hl,_=>by simp at hl
 | o::h,o'::h',k,i,hl,hi=>by
   cases i with
   | zero=>
     simp only[z0n,List.getElem?_cons_zero,Nat.add_zero]
     split <;> rfl
   | succ i=>
     simp only[z0n,l9]
     rw[q4l (by simpa using hl) (by simpa using hi),show k + 1 + i=k + (i + 1) by omega]
theorem z5v {T:List Nat}:∀ {h h':List AObj} {k:Nat},h.length≤h'.length→(z0n T k h h').length=h.length
 | [],[],_,_=>rfl
 | [],_::_,_,_=>rfl
 | o::h,[],_,hl=>by simp at hl
 | o::h,o'::h',k,hl=>by simp[z0n,z5v (show h.length≤h'.length by simpa using hl)]
theorem q0l {byref:List Nat}:∀ {vs vs':List AV} {cvs:List Value} {k:Nat} {G:Ghost} {I:Imm} {h h1:List AObj} {w:World},z1q h byref k vs=some vs'→VRL G I vs cvs→Frozen h h1→Rel G I h1 w→
  ∃ I',ILe I I'∧Rel G I' (freezeAll h1 (z0p byref k vs)) w∧VRL G I' vs' cvs∧NoNew G h1 I I'
 | [],_,_,_,G,I,h,h1,w,hc,hv,hf,rel=>by
   simp only[z1q,Option.some.injEq] at hc
   subst hc
   exact⟨I,ILe.refl _,by simpa only[z0p,freezeAll] using rel,hv,NoNew.refl⟩
 | v::vs,_,_,k,G,I,h,h1,w,hc,hv,hf,rel=>by
   simp only[z1q] at hc
   split at hc
   ·rename_i a b ha hb
    simp at hc
    subst hc
    simp only[VRL] at hv
    obtain⟨cv,cvs,rfl,hv1,hv2⟩:=hv
    by_cases hr:byref.contains k=true
    ·simp only[hr,if_true,Option.some.injEq] at ha
     subst ha
     obtain⟨I2,hI2,r2,hxs,hn2⟩:=q0l hb hv2 hf rel
     refine⟨I2,hI2, ?_, ?_,hn2⟩
     ·simp only[z0p,hr,if_true,List.nil_append]
      exact r2
     ·simp only[VRL]
      exact⟨cv,cvs,rfl,VR.mono (GLe.refl _) hI2 hv1,hxs⟩
    ·have hr:byref.contains k=false:=by simpa using hr
     simp only[hr,j9,if_false] at ha
     obtain⟨I1,hI1,r1,hx,hn1⟩:=q8h ha hv1 hf rel
     obtain⟨I2,hI2,r2,hxs,hn2⟩:=q0l hb (VRL.mono (GLe.refl _) hI1 hv2) (hf.trans (z2d _ _)) r1
     refine⟨I2,hI1.trans hI2, ?_, ?_,fun b hb o v hv=>hn1 b hb o v (hn2 b (fun i x hi hx=>by
      obtain⟨o',h2,h3⟩:=q5v (z2d _ _) hi hx
      exact hb i o' h2 h3) o v hv)⟩
     ·simp only[z0p,hr,j9,if_false,z3o]
      exact r2
     ·simp only[VRL]
      exact⟨cv,cvs,rfl,VR.mono (GLe.refl _) hI2 hx,hxs⟩
   ·simp at hc
end
end
end Go.Proofs.YtkollgjffkdliaaGreatDoor.Am
