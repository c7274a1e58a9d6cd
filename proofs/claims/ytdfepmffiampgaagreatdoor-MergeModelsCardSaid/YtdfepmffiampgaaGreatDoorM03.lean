/- One operation of the abstract machine stands for one operation of the model: numbers, strings, comparisons One operation of the abstract machine stands for one operation of the model: comparisons and  -/
import Derived.Laws.IdiomStrings
import Derived.Test.YtdfepmffiampgaaGreatDoorM02
set_option linter.all false
namespace Go.Proofs.YtdfepmffiampgaaGreatDoor.Am
open Go
set_option maxRecDepth 100000
section
theorem ofNat_inj {a b:Nat} (ha:a < 256) (hb:b < 256) (h:UInt8.ofNat a=UInt8.ofNat b):a=b:=by
 have:=congrArg UInt8.toNat h
 simp[UInt8.toNat_ofNat'] at this
 omega
theorem q0v {a:Nat} (ha:a < 256):(UInt8.ofNat a).toNat=a:=by
 simp[UInt8.toNat_ofNat']
 omega
theorem z4v (s:List Nat):(z8f s).size=s.length:=by
 show ((s.map UInt8.ofNat).toArray).size=s.length
 simp
theorem q0w (s:List Nat):(z8f s).toList=s.map UInt8.ofNat:=by
 rw[ByteArray.toList_eq]
 simp[z8f]
theorem j0h (a b:List Nat):z8f a++z8f b=z8f (a++b):=by
 apply ByteArray.ext
 simp[z8f]
theorem v6n {a b:List Nat} (ha:∀ x∈a,x < 256) (hb:∀ x∈b,x < 256) (h:a.map UInt8.ofNat=b.map UInt8.ofNat):a=b:=by
 induction a generalizing b with
 | nil=>cases b <;> simp at h⊢
 | cons x a ih=>
   cases b with
   | nil=>simp at h
   | cons y b=>
     simp at h
     rw[ofNat_inj (ha x (by simp)) (hb y (by simp)) h.1,ih (fun z hz=>ha z (by simp[hz])) (fun z hz=>hb z (by simp[hz])) h.2]
theorem v2c {a b:List Nat} (ha:∀ x∈a,x < 256) (hb:∀ x∈b,x < 256):((z8f a).toList==(z8f b).toList)=decide (a=b):=by
 rw[q0w,q0w]
 by_cases h:a=b
 ·subst h;simp
 ·have:¬ a.map UInt8.ofNat=b.map UInt8.ofNat:=fun e=>h (v6n ha hb e)
  simp only[h,decide_false]
  exact beq_eq_false_iff_ne.2 this
theorem j3g:∀ {a b:List Nat},(∀ x∈a,x < 256)→(∀ x∈b,x < 256)→Op.bytesLess (a.map UInt8.ofNat) (b.map UInt8.ofNat)=z4p a b
 | _,[],_,_=>by simp[Op.bytesLess,z4p]
 | [],_::_,_,_=>by simp[Op.bytesLess,z4p]
 | x::a,y::b,ha,hb=>by
   have hx:=ha x (by simp)
   have hy:=hb y (by simp)
   have ih:=j3g (a:=a) (b:=b) (fun z hz=>ha z (by simp[hz])) (fun z hz=>hb z (by simp[hz]))
   simp only[List.map_cons,Op.bytesLess,z4p,ih]
   have h1:decide (UInt8.ofNat x < UInt8.ofNat y)=decide (x < y):=by
    simp only[UInt8.lt_iff_toNat_lt,q0v hx,q0v hy]
   have h2:(UInt8.ofNat x==UInt8.ofNat y)=decide (x=y):=by
    by_cases he:x=y
    ·subst he;simp
    ·simp only[he,decide_false]
     exact beq_eq_false_iff_ne.2 fun e=>he (ofNat_inj hx hy e)
   rw[h1,h2]
section
variable {P:Program} {G:Ghost} {I:Imm} {h:List AObj} {w:World} {gen slot:Nat}
theorem u5x {a b:Int}:(a==b)=decide (a=b):=by by_cases h:a=b <;> simp[h]
theorem j9n {op:BinOp} {k:IntKind} {a b:Int} {t:TypeId} {v:AV} (hb:z8b op k a b=some v):∃ cv,(binOp op t (.int k a) (.int k b)).run P w= .ok cv w∧VR G I v cv:=by
 by_cases hq:op= .eql
 ·subst hq
  simp only[z8b,Option.some.injEq] at hb
  subst hb
  exact⟨.bool (a==b),by simp[binOp,Op.intCmp],by simp only[VR,u5x]⟩
 by_cases hn:op= .neq
 ·subst hn
  simp only[z8b,Option.some.injEq] at hb
  subst hb
  exact⟨.bool (a !=b),by simp[binOp,Op.intCmp],by simp only[VR,bne,u5x]⟩
 cases op <;> simp only[z8b,Option.some.injEq] at hb <;> first
  | exact absurd rfl hq
  | exact absurd rfl hn
  | (simp at hb;done)
  | (subst hb;exact⟨_,by simp[binOp,Op.intArith];rfl,by simp[VR]⟩)
  | (subst hb;exact⟨_,by simp[binOp,Op.intCmp];rfl,by simp[VR]⟩)
  | (split at hb
     ·simp at hb
     ·rename_i h0
      simp at hb
      subst hb
      exact⟨_,by simp[binOp,Op.intDiv,h0];rfl,by simp[VR]⟩)
theorem j9o {op:BinOp} {a b:List Nat} {t:TypeId} {v:AV} (ha:∀ x∈a,x < 256) (hb:∀ x∈b,x < 256) (hr:q4q op a b=some v):∃ cv,(binOp op t (.string (z8f a)) (.string (z8f b))).run P w= .ok cv w∧VR G I v cv:=by
 have he:=v2c ha hb
 have hl:Op.bytesLess (z8f a).toList (z8f b).toList=z4p a b:=by rw[q0w,q0w];exact j3g ha hb
 cases op <;> simp only[q4q,Option.some.injEq] at hr <;> first
  | (simp at hr;done)
  | (subst hr;exact⟨_,by simp only[binOp,Op.stringOp,he,hl];rfl,by simp[VR]⟩)
  | (split at hr
     ·rename_i hlt
      simp at hr
      subst hr
      refine⟨.string (z8f (a++b)), ?_,by simp only[VR];exact⟨trivial,fun x hx=>(List.mem_append.1 hx).elim (ha x) (hb x)⟩⟩
      have hsz:¬ (((z8f a).size + (z8f b).size:Nat):Int) > IntKind.i64.max:=by
       rw[z4v,z4v]
       have:IntKind.i64.max=9223372036854775807:=by decide
       rw[this]
       omega
      simp only[binOp,Op.stringOp]
      rw[if_neg hsz,j0h]
      rfl
     ·simp at hr)
theorem x7k {s:STy} {x y:AV} {a b:Value} {r:Bool} {t:TypeId} {d:Nat} (hs:sTy P t=some s) (hx:VR G I x a) (hy:VR G I y b) (he:x.eq1 s y=some r):
  (Op.equalIn (d + 1) t a b).run P w= .ok r w∧(part t #[a] 0).run P w= .ok a w∧Instr.sameNow ((P.underlying t).getD .invalid) a b=some r∧(∀ e n,(Instr.checkKey e (n + 1) t a).run P w= .ok () w):=by
 unfold sTy at hs
 cases hu:P.underlying t with
 | none=>simp[hu] at hs
 | some dd=>
   rw[hu] at hs
   cases dd <;> simp at hs <;> subst hs <;> cases x <;> cases y <;> simp only[AV.eq1] at he <;> first
    | (simp at he;done)
    | skip
   ·simp at he
    simp only[VR] at hx hy
    subst hx hy
    simp[Op.equalIn,run_underlying hu,part,q0c hu,j6n,Instr.sameNow,Instr.checkKey,he]
   ·split at he
    ·rename_i e
     subst e
     simp at he
     simp only[VR] at hx hy
     subst hx hy
     have hb:∀ p q:Int,(p==q)=decide (p=q):=fun p q=>by by_cases h:p=q <;> simp[h]
     simp[Op.equalIn,run_underlying hu,part,q0c hu,j6n,Instr.sameNow,Instr.checkKey,he,hb]
    ·simp at he
   ·simp at he
    simp only[VR] at hx hy
    obtain⟨rfl,hx⟩:=hx
    obtain⟨rfl,hy⟩:=hy
    have hb:=v2c hx hy
    rw[←beq_toListBytes] at hb
    simp[Op.equalIn,run_underlying hu,part,q0c hu,j6n,Instr.sameNow,Instr.checkKey,hb,he]
theorem q3n {s:STy} {t:TypeId} {cs:Array Value} {n:Nat} {v:Value} (hs:sTy P t=some s) (hv:cs[n]? =some v):(part t cs n).run P w= .ok v w:=by
 unfold sTy at hs
 cases hu:P.underlying t with
 | none=>simp[hu] at hs
 | some dd=>
   rw[hu] at hs
   cases dd <;> simp at hs <;> simp[part,q0c hu,j6n,hv]
theorem q8u {d:Nat} {xs ys:Array Value} {asx bs:List AV} (ha:ArrR G I asx xs) (hb:ArrR G I bs ys):∀ (fs:List Field) (n:Nat) (ts:List STy) (r:Bool),z3w P n fs=some ts→
  eqL ts (asx.drop n) (bs.drop n)=some r→(Op.eqFields (d + 1) xs ys fs).run P w= .ok r w
 | [],n,ts,r,hr,he=>by
   simp[z3w] at hr
   subst hr
   cases h1:asx.drop n <;> cases h2:bs.drop n <;> rw[h1,h2] at he <;> simp[eqL] at he
   subst he
   rfl
 | f::fs,n,ts,r,hr,he=>by
   simp only[z3w] at hr
   split at hr
   ·rename_i hf
    cases h1:sTy P f.type with
    | none=>simp[h1] at hr
    | some s=>
      cases h2:z3w P (n + 1) fs with
      | none=>simp[h1,h2] at hr
      | some ss=>
        simp[h1,h2] at hr
        subst hr
        cases hda:asx.drop n with
        | nil=>rw[hda] at he;simp[eqL] at he
        | cons x asx'=>
          cases hdb:bs.drop n with
          | nil=>rw[hda,hdb] at he;simp[eqL] at he
          | cons y bs'=>
            rw[hda,hdb] at he
            simp only[eqL] at he
            have ga:asx[n]? =some x:=by
             have:=congrArg (fun l=>l[0]?) hda
             simpa [List.getElem?_drop] using this
            have gb:bs[n]? =some y:=by
             have:=congrArg (fun l=>l[0]?) hdb
             simpa [List.getElem?_drop] using this
            have da:asx.drop (n + 1)=asx':=by rw[show asx.drop (n + 1)=(asx.drop n).drop 1 by rw[List.drop_drop],hda];rfl
            have db:bs.drop (n + 1)=bs':=by rw[show bs.drop (n + 1)=(bs.drop n).drop 1 by rw[List.drop_drop],hdb];rfl
            cases e1:x.eq1 s y with
            | none=>simp[e1] at he
            | some q=>
              cases e2:eqL ss asx' bs' with
              | none=>simp[e1,e2] at he
              | some q'=>
                simp[e1,e2] at he
                subst he
                obtain⟨u,hu,ru⟩:=ha.2 n x ga
                obtain⟨v,hv,rv⟩:=hb.2 n y gb
                have h3:=(x7k (w:=w) (d:=d) h1 ru rv e1).1
                have p1:=q3n (w:=w) h1 hu
                have p2:=q3n (w:=w) h1 hv
                have ih:=q8u (d:=d) ha hb fs (n + 1) ss q' h2 (by rw[da,db];exact e2)
                simp only[Op.eqFields,hf.1,hf.2,ne_eq,not_false_eq_true,if_true,Sem.run_bind,p1,p2,h3,Result.andThen]
                cases q <;> simp[ih]
   ·simp at hr
end
end
section
variable {P:Program} {G:Ghost} {I:Imm} {h:List AObj} {w:World} {gen slot:Nat}
theorem z7s {t:TypeId} {e:ETy} (hk:kTy P t=some e):(∃ s,sTy P t=some s∧e= .one s)∨
  (sTy P t=none∧∃ fs ts,P.underlying t=some (.struct fs)∧P.stoodInHeld t=false∧P.eqGuardType P.depth t=false∧z3w P 0 fs.toList=some ts∧e= .agg ts):=by
 unfold kTy at hk
 cases hs:sTy P t with
 | some s=>
   rw[hs] at hk
   simp at hk
   exact .inl ⟨s,rfl,hk.symm⟩
 | none=>
   rw[hs] at hk
   refine .inr ⟨rfl, ?_⟩
   cases hu:P.underlying t with
   | none=>rw[hu] at hk;simp at hk
   | some d=>
     rw[hu] at hk
     cases d <;> simp at hk
     obtain⟨⟨h1,h2⟩,ts,h3,h4⟩:=hk
     exact⟨_,ts,rfl,h1,h2,h3,h4.symm⟩
theorem ArrR.of_agg {cs:List AV} {a:Value} (hx:VR G I (.agg cs) a):∃ vs,a= .agg vs∧ArrR G I cs vs:=by
 have hc:=q0b (x:= .agg cs) rfl hx
 simp only[VR] at hx
 obtain⟨vs,rfl,_⟩:=hx
 exact⟨vs,rfl,hc⟩
theorem j0i {t:TypeId} {fs:Array Field} (hu:P.underlying t=some (.struct fs)):P.fieldsOf t=fs:=by
 unfold Program.fieldsOf
 rw[hu]
theorem x4o {t:TypeId} {e:ETy} {x y:AV} {a b:Value} {r:Bool} {d:Nat} (hk:kTy P t=some e) (hx:VR G I x a) (hy:VR G I y b) (he:x.eqv e y=some r):(Op.equalIn (d + 2) t a b).run P w= .ok r w:=by
 rcases z7s hk with ⟨s,hs,rfl⟩ | ⟨_,fs,ts,hu,h1,_,h3,rfl⟩
 ·simp only[AV.eqv] at he
  exact (x7k (w:=w) (d:=d + 1) hs hx hy he).1
 ·cases x <;> cases y <;> simp only[AV.eqv] at he <;> try (simp at he;done)
  obtain⟨us,rfl,ha⟩:=ArrR.of_agg hx
  obtain⟨vs,rfl,hb⟩:=ArrR.of_agg hy
  have hf:=j0i hu
  rw[run_equalIn_struct w (d + 1) t us vs (by rw[hf];exact hu) h1,hf]
  exact q8u (P:=P) (w:=w) (d:=d) ha hb fs.toList 0 ts r h3 (by simpa using he)
theorem j0j {t:TypeId} {e:ETy} {x y:AV} {a b:Value} {op:BinOp} {p q:Operand} {r:Bool} (hk:kTy P t=some e) (hx:VR G I x a) (hy:VR G I y b) (he:x.eqv e y=some r):(eqGuard op t p q a b).run P w= .ok () w:=by
 rcases z7s hk with ⟨s,hs,rfl⟩ | ⟨_,fs,ts,hu,_,h2,_,rfl⟩
 ·simp only[AV.eqv] at he
  cases s <;> cases x <;> cases y <;> simp only[AV.eq1] at he <;> (try (simp at he;done)) <;> simp only[VR] at hx hy
  ·subst hx hy
   cases op <;> rfl
  ·subst hx hy
   cases op <;> rfl
  ·obtain⟨rfl,_⟩:=hx
   obtain⟨rfl,_⟩:=hy
   cases op <;> rfl
 ·cases x <;> cases y <;> simp only[AV.eqv] at he <;> try (simp at he;done)
  obtain⟨us,rfl,_⟩:=ArrR.of_agg hx
  obtain⟨vs,rfl,_⟩:=ArrR.of_agg hy
  cases op <;> first
   | rfl
   | simp[eqGuard,h2]
theorem k5o {op:BinOp} {t:TypeId} {a b:Value} {r:Bool} (hni:∀ k n,a≠ .int k n) (hns:∀ s,a≠ .string s) (hnp:∀ p,a≠ .pointer p∨∀ k n,b≠ .int k n)
  (hop:op= .eql∨op= .neq) (hf:∀ k m,a≠ .float k m) (hc:∀ k m n,a≠ .complex k m n) (he:(Op.equal t a b).run P w= .ok r w):
  (binOp op t a b).run P w= .ok (.bool (if op= .eql then r else !r)) w:=by
 rcases hop with rfl | rfl
 ·have:binOp .eql t a b=(do pure (.bool (←Op.equal t a b)):Sem Value):=by
   unfold binOp
   cases a <;> first
    | rfl
    | exact absurd rfl (hni _ _)
    | exact absurd rfl (hns _)
    | exact absurd rfl (hf _ _)
    | exact absurd rfl (hc _ _ _)
    | (cases b <;> rfl)
  rw[this]
  simp[he]
 ·have:binOp .neq t a b=(do pure (.bool (!(←Op.equal t a b))):Sem Value):=by
   unfold binOp
   cases a <;> first
    | rfl
    | exact absurd rfl (hni _ _)
    | exact absurd rfl (hns _)
    | exact absurd rfl (hf _ _)
    | exact absurd rfl (hc _ _ _)
    | (cases b <;> rfl)
  rw[this]
  simp[he]
end
section
variable {P:Program} {G:Ghost} {I:Imm} {h:List AObj} {w:World} {gen slot:Nat}
theorem j9p {t:TypeId} {e:ETy} (he:eTy P t=some e):kTy P t=some e∨(∃ x,P.underlying t=some (.slice x)∧e= .sl)∨(∃ x,P.underlying t=some (.pointer x)∧e= .pt)∨
  (∃ x y,P.underlying t=some (.map x y)∧e= .mp)∨(∃ x y z,P.underlying t=some (.func x y z)∧e= .fn):=by
 unfold eTy at he
 split at he
 ·rename_i e' hk
  simp at he
  subst he
  exact .inl hk
 ·split at he <;> simp at he <;> subst he
  ·exact .inr (.inl ⟨_, ‹_›,rfl⟩)
  ·exact .inr (.inr (.inl ⟨_, ‹_›,rfl⟩))
  ·exact .inr (.inr (.inr (.inl ⟨_,_, ‹_›,rfl⟩)))
  ·exact .inr (.inr (.inr (.inr ⟨_,_,_, ‹_›,rfl⟩)))
theorem j6o {op:BinOp} {e:ETy} {x y v:AV} (hb:(match op with | .eql=>(x.eqv e y).map AV.bool | .neq=>(x.eqv e y).map fun b=> .bool !b | _=>none)=some v):
  ∃ r,x.eqv e y=some r∧(op= .eql∨op= .neq)∧v= .bool (if op= .eql then r else !r):=by
 cases op <;> simp only[Option.map_eq_some_iff] at hb <;> try (simp at hb;done)
 ·obtain⟨r,h1,rfl⟩:=hb
  exact⟨r,h1, .inl rfl,by simp⟩
 ·obtain⟨r,h1,rfl⟩:=hb
  exact⟨r,h1, .inr rfl,by simp⟩
section
variable {t:TypeId} {d:Nat}
theorem j9q {ms:Array (String×TypeId)} (hu:P.underlying t=some (.interface ms)):(Op.equalIn (d + 1) t .nilIface .nilIface).run P w= .ok true w:=by
 simp[Op.equalIn,run_underlying hu]
theorem j3h {x:TypeId} {A B:Option Addr} {n c m e:Nat} (hu:P.underlying t=some (.slice x)) (hn:A=none∨B=none):(Op.equalIn (d + 1) t (.slice A n c) (.slice B m e)).run P w= .ok (A.isNone && B.isNone) w:=by
 cases A <;> cases B <;> simp[Op.equalIn,run_underlying hu] at hn⊢
theorem w4o {x:TypeId} {A B:Option Addr} (hu:P.underlying t=some (.pointer x)) (hn:A=none∨B=none):(Op.equalIn (d + 1) t (.pointer A) (.pointer B)).run P w= .ok (A.isNone && B.isNone) w:=by
 cases A <;> cases B <;> simp[Op.equalIn,run_underlying hu] at hn⊢
theorem w4p {x y:TypeId} {A B:Option Nat} (hu:P.underlying t=some (.map x y)) (hn:A=none∨B=none):(Op.equalIn (d + 1) t (.map A) (.map B)).run P w= .ok (A.isNone && B.isNone) w:=by
 cases A <;> cases B <;> simp[Op.equalIn,run_underlying hu] at hn⊢
theorem v6o {x y:Array TypeId} {z:Bool} (hu:P.underlying t=some (.func x y z)):(Op.equalIn (d + 1) t .nilFunc .nilFunc).run P w= .ok true w:=by
 simp[Op.equalIn,run_underlying hu]
theorem v6p {x y:Array TypeId} {z:Bool} {f:Fn} {p q:Array Value} (hu:P.underlying t=some (.func x y z)):(Op.equalIn (d + 1) t .nilFunc (.func f p q)).run P w= .ok false w:=by
 simp[Op.equalIn,run_underlying hu]
theorem v6q {x y:Array TypeId} {z:Bool} {f:Fn} {p q:Array Value} (hu:P.underlying t=some (.func x y z)):(Op.equalIn (d + 1) t (.func f p q) .nilFunc).run P w= .ok false w:=by
 simp[Op.equalIn,run_underlying hu]
end
theorem z5u {op:BinOp} {t:TypeId} {p q:Operand} {a b:Value} (ha:∀ cs,a≠ .agg cs) (hn:a≠ .nilIface):(eqGuard op t p q a b).run P w= .ok () w:=by
 unfold eqGuard
 cases op <;> first
  | rfl
  | (cases a <;> first | rfl | exact absurd rfl (ha _) | exact absurd rfl hn)
theorem j6p {op:BinOp} {t:TypeId} {p q:Operand} (h:w4l P op t p q=true):(∃ ms,P.underlying t=some (.interface ms))∧((∃ c,p= .const c)∨∃ c,q= .const c):=by
 unfold w4l at h
 simp only[Bool.and_eq_true] at h
 obtain⟨⟨_,h2⟩,h3⟩:=h
 constructor
 ·cases hu:P.underlying t with
  | none=>rw[hu] at h2;simp at h2
  | some d=>rw[hu] at h2;cases d <;> simp at h2;exact⟨_,rfl⟩
 ·split at h3
  ·exact .inl ⟨_,rfl⟩
  ·exact .inr ⟨_,rfl⟩
  ·simp at h3
theorem w4q {op:BinOp} {t:TypeId} {e:ETy} {p q:Operand} {x y v:AV} {a b:Value} (hc:(w4l P op t p q=true∧e= .iface)∨eTy P t=some e) (hx:VR G I x a) (hy:VR G I y b) (hb:z4k op e x y=some v):
  ∃ cv,(do eqGuard op t p q a b;binOp op t a b:Sem Value).run P w= .ok cv w∧VR G I v cv:=by
 unfold z4k at hb
 split at hb
 ·split at hb
  ·rename_i k m j n hop
   simp only[VR] at hx hy
   subst hx hy
   unfold q8a at hb
   split at hb
   ·simp at hb
   ·rename_i hn
    rcases hop with rfl | rfl
    ·simp only[Option.some.injEq] at hb
     subst hb
     refine⟨.int k (k.wrap (m * 2 ^ (min n.toNat k.bits))), ?_,by simp only[VR]⟩
     rw[Sem.run_bind,z5u (by simp) (by simp)]
     show (Op.shift .shl k m j n).run P w=_
     simp[Op.shift,hn]
    ·simp only[Option.some.injEq] at hb
     subst hb
     refine⟨.int k (m.fdiv (2 ^ (min n.toNat k.bits))), ?_,by simp only[VR]⟩
     rw[Sem.run_bind,z5u (by simp) (by simp)]
     show (Op.shift .shr k m j n).run P w=_
     simp[Op.shift,hn]
  split at hb
  ·rename_i k m j n _ hk
   subst hk
   simp only[VR] at hx hy
   subst hx hy
   obtain⟨cv,h1,h2⟩:=j9n (P:=P) (G:=G) (I:=I) (w:=w) (t:=t) hb
   refine⟨cv, ?_,h2⟩
   rw[Sem.run_bind,z5u (by simp) (by simp)]
   exact h1
  ·simp at hb
 ·simp only[VR] at hx hy
  obtain⟨rfl,hx⟩:=hx
  obtain⟨rfl,hy⟩:=hy
  obtain⟨cv,h1,h2⟩:=j9o (P:=P) (G:=G) (I:=I) (w:=w) (t:=t) hx hy hb
  refine⟨cv, ?_,h2⟩
  rw[Sem.run_bind,z5u (by simp) (by simp)]
  exact h1
 ·rename_i hni hns
  obtain⟨r,he,hop,rfl⟩:=j6o hb
  have fin:∀ (hg:(eqGuard op t p q a b).run P w= .ok () w) (h1:∀ k n,a≠ .int k n) (h2:∀ s,a≠ .string s) (h3:∀ z,a≠ .pointer z∨∀ k n,b≠ .int k n) (h4:∀ k m,a≠ .float k m) (h5:∀ k m n,a≠ .complex k m n)
    (h6:(Op.equal t a b).run P w= .ok r w),∃ cv,(do eqGuard op t p q a b;binOp op t a b:Sem Value).run P w= .ok cv w∧VR G I (.bool (if op= .eql then r else !r)) cv:=by
   intro hg h1 h2 h3 h4 h5 h6
   refine⟨.bool (if op= .eql then r else !r), ?_,by simp[VR]⟩
   rw[Sem.run_bind,hg]
   exact k5o h1 h2 h3 hop h4 h5 h6
  rcases hc with ⟨hn,rfl⟩ | hc
  ·obtain⟨⟨ms,hu⟩,hcon⟩:=j6p hn
   cases x <;> cases y <;> simp only[AV.eqv] at he <;> try (simp at he;done)
   simp at he
   subst he
   simp only[VR] at hx hy
   subst hx hy
   refine fin ?_ (by simp) (by simp) (by simp) (by simp) (by simp) (j9q (d:=9999) hu)
   rcases hop with rfl | rfl <;> rcases hcon with ⟨c,rfl⟩ | ⟨c,rfl⟩ <;> simp[eqGuard]
  ·rcases j9p hc with hk | ⟨z,hu,rfl⟩ | ⟨z,hu,rfl⟩ | ⟨z,z',hu,rfl⟩ | ⟨z,z',z'',hu,rfl⟩
   ·refine fin (j0j hk hx hy he) ?_ ?_ ?_ ?_ ?_ (x4o (d:=9998) hk hx hy he)
    all_goals
     rcases z7s hk with ⟨s,_,rfl⟩ | ⟨_,fs,ts,_,_,_,_,rfl⟩
     ·simp only[AV.eqv] at he
      cases s <;> cases x <;> cases y <;> simp only[AV.eq1] at he <;> (try (simp at he;done)) <;> first
       | exact absurd rfl (hni _ _ _ _ rfl)
       | exact absurd rfl (hns _ _ rfl)
       | (simp only[VR] at hx hy;subst hx hy;simp)
     ·cases x <;> cases y <;> simp only[AV.eqv] at he <;> try (simp at he;done)
      obtain⟨us,rfl,_⟩:=ArrR.of_agg hx
      obtain⟨vs,rfl,_⟩:=ArrR.of_agg hy
      simp
   ·cases x <;> cases y <;> simp only[AV.eqv] at he <;> try (simp at he;done)
    rename_i xs tx ys ty
    simp only[VR] at hx hy
    obtain⟨A,n,c,rfl,hl1,hnc,ht1,hr1⟩:=hx
    obtain⟨B,m,d,rfl,hl2,hmd,ht2,hr2⟩:=hy
    refine fin (z5u (by simp) (by simp)) (by simp) (by simp) (by simp) (by simp) (by simp) ?_
    split at he
    ·split at he
     ·rename_i e1
      subst e1
      simp at he
      subst he
      obtain⟨rfl,_,_⟩:=ht1
      simp at hl2
      rcases hr2 with h0 | ⟨bb,oo,ee,rfl,_⟩
      ·omega
      ·exact j3h (d:=9999) hu (by simp)
     ·simp at he
    ·split at he
     ·rename_i e1
      subst e1
      simp at he
      subst he
      obtain⟨rfl,_,_⟩:=ht2
      simp at hl1
      rcases hr1 with h0 | ⟨bb,oo,ee,rfl,_⟩
      ·omega
      ·exact j3h (d:=9999) hu (by simp)
     ·simp at he
    ·split at he
     ·rename_i e1
      obtain⟨rfl,rfl⟩:=e1
      simp at he
      subst he
      obtain⟨rfl,_,_⟩:=ht1
      obtain⟨rfl,_,_⟩:=ht2
      exact j3h (d:=9999) hu (by simp)
     ·split at he
      ·rename_i e1
       obtain⟨rfl,rfl⟩:=e1
       simp at he
       subst he
       obtain⟨rfl,_,_⟩:=ht2
       simp only[TipR] at ht1
       cases A with
       | none=>exact absurd rfl ht1
       | some A=>exact j3h (d:=9999) hu (by simp)
      ·simp at he
    ·simp at he
   ·cases x <;> cases y <;> simp only[AV.eqv] at he <;> try (simp at he;done)
    all_goals
     simp at he
     subst he
     simp only[VR] at hx hy
     first
      | (obtain⟨_,_,_,rfl⟩:=hx)
      | (obtain⟨_,_,rfl,_⟩:=hx)
      | subst hx
     first
      | (obtain⟨_,_,_,rfl⟩:=hy)
      | (obtain⟨_,_,rfl,_⟩:=hy)
      | subst hy
     refine fin (z5u (by simp) (by simp)) (by simp) (by simp) (by simp) (by simp) (by simp) ?_
     exact w4o (d:=9999) hu (by simp)
   ·cases x <;> cases y <;> simp only[AV.eqv] at he <;> try (simp at he;done)
    all_goals
     simp at he
     subst he
     simp only[VR] at hx hy
     first
      | (obtain⟨_,_,_,rfl⟩:=hx)
      | subst hx
     first
      | (obtain⟨_,_,_,rfl⟩:=hy)
      | subst hy
     refine fin (z5u (by simp) (by simp)) (by simp) (by simp) (by simp) (by simp) (by simp) ?_
     exact w4p (d:=9999) hu (by simp)
   ·cases x <;> cases y <;> simp only[AV.eqv] at he <;> try (simp at he;done)
    all_goals
     simp at he
     subst he
     simp only[VR] at hx hy
     first
      | (obtain⟨_,rfl,_⟩:=hx)
      | subst hx
     first
      | (obtain⟨_,rfl,_⟩:=hy)
      | subst hy
     refine fin (z5u (by simp) (by simp)) (by simp) (by simp) (by simp) (by simp) (by simp) ?_
     first | exact v6o (d:=9999) hu | exact v6p (d:=9999) hu | exact v6q (d:=9999) hu
theorem y8s {op:UnOp} {x v:AV} {a:Value} (hx:VR G I x a) (hb:k5m op x=some v):∃ cv,(Op.unary op a).run P w= .ok cv w∧VR G I v cv:=by
 unfold k5m at hb
 split at hb
 ·simp at hb
  subst hb
  simp only[VR] at hx
  subst hx
  exact⟨_,by simp[Op.unary,Op.intArith];rfl,by simp[VR]⟩
 ·simp at hb
  subst hb
  simp only[VR] at hx
  subst hx
  exact⟨_,by simp[Op.unary];rfl,by simp[VR]⟩
 ·simp at hb
end
section
variable {P:Program} {G:Ghost} {I:Imm} {h:List AObj} {w:World} {gen slot:Nat}
def OR (G:Ghost) (I:Imm):Option AV→Option Value→Prop
 | none,none=>True
 | some x,some v=>VR G I x v
 | _,_=>False
theorem z5z {k:IntKind} {i:Int} {y:Nat} {code:BoundsCode} (h0:0≤i) (h1:i.toNat≤y):(Instr.sliceBound (.int k i) y code).run P w= .ok i.toNat w:=by
 have:0≤i∧i≤(y:Int):=⟨h0,by omega⟩
 simp[Instr.sliceBound,asIntOf,this]
theorem z8q {d n:Nat} {x:AV} {v:Value} (hv:VR G I x v) (hb:z5l d (some x)=some n):∃ k i,v= .int k i∧0≤i∧i.toNat=n:=by
 unfold z5l at hb
 split at hb
 ·rename_i heq;simp at heq
 ·rename_i heq
  split at hb
  ·simp at hb heq
   subst heq
   simp only[VR] at hv
   exact⟨_,_,hv, ‹_›,hb⟩
  ·simp at hb
 ·simp at hb
theorem z9w {isSlice:Bool} {len cap l r:Nat} {lo hi:Option AV} {clo chi:Option Value} (hlo:OR G I lo clo) (hhi:OR G I hi chi) (hl:z5l 0 lo=some l) (hr:z5l len hi=some r) (hlr:l≤r) (hrc:r≤cap):
  (Instr.sliceBounds isSlice len cap clo chi none).run P w= .ok (l,r,cap) w:=by
 unfold Instr.sliceBounds
 cases hi with
 | none=>
   cases chi with
   | some v=>exact hhi.elim
   | none=>
     simp[z5l] at hr
     subst hr
     cases lo with
     | none=>
       cases clo with
       | none=>simp[z5l] at hl;subst hl;simp
       | some v=>exact hlo.elim
     | some y=>
       cases clo with
       | none=>exact hlo.elim
       | some v=>
         obtain⟨k'',i'',rfl,h0'',h1''⟩:=z8q hlo hl
         have b3:=z5z (P:=P) (w:=w) (k:=k'') (code:= .sliceB) h0'' (show i''.toNat≤len by omega)
         rw[h1''] at b3
         simp[b3]
 | some x=>
   cases chi with
   | none=>exact hhi.elim
   | some v=>
     obtain⟨k',i',rfl,h0',h1'⟩:=z8q hhi hr
     have b2:=z5z (P:=P) (w:=w) (k:=k') (code:=if isSlice then .sliceAcap else .sliceAlen) h0' (show i'.toNat≤cap by omega)
     rw[h1'] at b2
     cases lo with
     | none=>
       cases clo with
       | none=>simp[z5l] at hl;subst hl;simp[b2]
       | some v=>exact hlo.elim
     | some y=>
       cases clo with
       | none=>exact hlo.elim
       | some v=>
         obtain⟨k'',i'',rfl,h0'',h1''⟩:=z8q hlo hl
         have b3:=z5z (P:=P) (w:=w) (k:=k'') (code:= .sliceB) h0'' (show i''.toNat≤r by omega)
         rw[h1''] at b3
         simp[b2,b3]
theorem q8v {len cap l r:Nat} {lo hi mx:Option AV} {clo chi cmx:Option Value} (hlo:OR G I lo clo) (hhi:OR G I hi chi) (hmx:OR G I mx cmx) (hl:z5l 0 lo=some l) (hr:z5l len hi=some r) (hm:z5l 0 mx=some r) (his:hi.isSome=true) (hms:mx.isSome=true) (hlr:l≤r) (hrc:r≤cap):
  (Instr.sliceBounds true len cap clo chi cmx).run P w= .ok (l,r,r) w:=by
 cases mx with
 | none=>simp at hms
 | some m=>
   cases cmx with
   | none=>exact hmx.elim
   | some cm=>
     obtain⟨k,i,rfl,h0,h1⟩:=z8q hmx hm
     cases hi with
     | none=>simp at his
     | some x=>
       cases chi with
       | none=>exact hhi.elim
       | some v=>
         obtain⟨k',i',rfl,h0',h1'⟩:=z8q hhi hr
         have b1:=z5z (P:=P) (w:=w) (k:=k) (code:= .slice3Acap) h0 (show i.toNat≤cap by omega)
         have b2:=z5z (P:=P) (w:=w) (k:=k') (code:= .slice3B) h0' (show i'.toNat≤r by omega)
         rw[h1] at b1
         rw[h1'] at b2
         unfold Instr.sliceBounds
         cases lo with
         | none=>
           cases clo with
           | none=>
             simp[z5l] at hl
             subst hl
             simp[b1,b2]
           | some v=>exact hlo.elim
         | some y=>
           cases clo with
           | none=>exact hlo.elim
           | some v=>
             obtain⟨k'',i'',rfl,h0'',h1''⟩:=z8q hlo hl
             have b3:=z5z (P:=P) (w:=w) (k:=k'') (code:= .slice3C) h0'' (show i''.toNat≤r by omega)
             rw[h1''] at b3
             simp[b1,b2,b3]
theorem k5p {xs:List AV} {b o e l r:Nat} (hr:RowI G I xs b o e):RowI G I ((xs.take r).drop l) b (o + l * e) e:=by
 refine z6j.2 fun k x hx=> ?_
 rw[List.getElem?_drop] at hx
 have hlt:l + k < r:=by
  have:=(List.getElem?_eq_some_iff.1 hx).1
  simp at this
  omega
 rw[List.getElem?_take_of_lt hlt] at hx
 have:=z6j.1 hr (l + k) x hx
 rwa [Nat.add_mul,←Nat.add_assoc] at this
theorem j6q {esz:Nat} {xs:List AV} {b o e:Nat} (hh:z5m esz xs=true) (hn:xs≠[]) (hr:RowI G I xs b o e):e=esz:=by
 cases xs with
 | nil=>exact absurd rfl hn
 | cons x xs=>
   simp[z5m] at hh
   have:=(x7h.1 hr).1
   omega
theorem j9r {s:List Nat} {t:TypeId} {l r:Nat} {lo hi:Option AV} {clo chi:Option Value} (hs:∀ b∈s,b < 256) (hu:P.underlying t=some .string) (hlo:OR G I lo clo) (hhi:OR G I hi chi) (hl:z5l 0 lo=some l) (hr:z5l s.length hi=some r) (hlr:l≤r) (hrc:r≤s.length):
  ∃ cv,(Instr.sliceAt t (.string (z8f s)) clo chi none).run P w= .ok cv w∧VR G I (.str ((s.take r).drop l)) cv:=by
 have hb:=z9w (P:=P) (w:=w) (isSlice:=false) (cap:=s.length) hlo hhi hl hr hlr hrc
 refine⟨.string (z8f ((s.take r).drop l)), ?_,by simp only[VR];exact⟨trivial,fun b hb=>hs b (List.mem_of_mem_take (List.mem_of_mem_drop hb))⟩⟩
 have hx:(z8f s).extract l r=z8f ((s.take r).drop l):=by
  apply ByteArray.ext
  apply Array.ext'
  simp[z8f,ByteArray.data_extract,List.drop_take,List.map_take,List.map_drop]
 simp only[Instr.sliceAt,Sem.run_bind,run_underlying hu,Result.andThen]
 simp[Instr.slice,run_underlying hu,z4v,hb,hx]
theorem j3i {xs:List AV} {tp tp':Tip} {t e:TypeId} {sz l r m:Nat} {a:Value} {clo chi cmx:Option Value} (hx:VR G I (.sl xs tp) a) (hu:P.underlying t=some (.slice e)) (hsz:sizeP P e=some sz) (hh:z5m sz xs=true)
  (hlr:l≤r) (hrx:r≤xs.length)
  (hb:∀ c,xs.length≤c→(Instr.sliceBounds true xs.length c clo chi cmx).run P w= .ok (l,r,if m=0 then c else r) w)
  (ht:(m=0∧tp'=if r=xs.length then tp else .no)∨(m≠0∧tp'= .full)):
  ∃ cv,(Instr.sliceAt t a clo chi cmx).run P w= .ok cv w∧VR G I (.sl ((xs.take r).drop l) tp') cv:=by
 simp only[VR] at hx
 obtain⟨A,n,c,rfl,rfl,hnc,htip,hrow⟩:=hx
 have hs:(sizeOf e).run P w= .ok sz w:=by
  unfold sizeP at hsz
  cases hi:P.info? e with
  | none=>simp[hi] at hsz
  | some i=>simp[hi] at hsz;simp[sizeOf,typeInfo,hi,hsz]
 have hrun:(Instr.sliceAt t (.slice A xs.length c) clo chi cmx).run P w= .ok (.slice (if (if m=0 then c else r)=l then A else A.map (·.add (l * sz))) (r - l) ((if m=0 then c else r) - l)) w:=by
  simp only[Instr.sliceAt,Sem.run_bind,run_underlying hu,Result.andThen]
  simp only[Instr.slice,Sem.run_bind,run_underlying hu,Result.andThen,hb c hnc,hs,Sem.run_pure]
 refine⟨_,hrun, ?_⟩
 simp only[VR]
 refine⟨(if (if m=0 then c else r)=l then A else A.map (·.add (l * sz))),r - l,(if m=0 then c else r) - l,rfl,by simp;omega,by split <;> omega, ?_, ?_⟩
 ·clear hrow hrun
  rcases ht with ⟨hm,rfl⟩ | ⟨hm,rfl⟩
  ·rw[if_pos hm]
   split
   ·rename_i hr
    cases tp with
    | no=>trivial
    | nn=>
      simp only[TipR] at htip⊢
      cases A with
      | none=>exact absurd rfl htip
      | some A=>split <;> simp
    | full=>
      simp only[TipR] at htip⊢
      simp
      omega
    | nil=>
      simp only[TipR] at htip⊢
      obtain⟨rfl,h2,rfl⟩:=htip
      simp
      omega
    | «at» s g=>
      simp only[TipR] at htip⊢
      obtain⟨i,h1,h2,h3,h4,h5⟩:=htip
      refine⟨i,h1,h2,h3,fun x hx=>h4 x (List.mem_of_mem_take (List.mem_of_mem_drop hx)), ?_⟩
      have hlen:((xs.take r).drop l).length=xs.length - l:=by simp;omega
      rw[hlen]
      rcases h5 with h5 | ⟨h5,o,rfl,h6,h7⟩
      ·exact .inl (by omega)
      ·by_cases hcl:c=l
       ·exact .inl (by omega)
       ·refine .inr ⟨h5,o + l * i.esz, ?_, ?_, ?_⟩
        ·rw[if_neg hcl]
         simp only[Option.map_some,Addr.add_lit]
         by_cases hl0:l=0
         ·subst hl0;simp
         ·have:xs≠[]:=fun e=>by subst e;simp at hrx;omega
          obtain⟨x,xs',rfl⟩:=List.exists_cons_of_ne_nil this
          have he:=h4 x (by simp)
          simp[z5m] at hh
          rw[←hh,he]
        ·have:xs.length * i.esz=l * i.esz + (xs.length - l) * i.esz:=by rw[←Nat.add_mul];congr 1;omega
         omega
        ·have:c * i.esz=l * i.esz + (c - l) * i.esz:=by rw[←Nat.add_mul];congr 1;omega
         omega
   ·trivial
  ·rw[if_neg hm]
   simp only[TipR]
   simp
   omega
 ·rcases hrow with h0 | ⟨b,o,e',rfl,hpos,hrow⟩
  ·exact .inl (by omega)
  ·by_cases hz:r - l=0
   ·exact .inl hz
   ·refine .inr ⟨b,o + l * e',e', ?_,hpos,k5p hrow⟩
    have hne:xs≠[]:=fun e=>by subst e;simp at hrx;omega
    have he:=j6q hh hne hrow
    subst he
    have hcl:¬ (if m=0 then c else r)=l:=by split <;> omega
    rw[if_neg hcl]
    simp[Addr.add_lit]
theorem w4r {x v:AV} {a:Value} {t ty:TypeId} {l:LenTy} (rel:Rel G I h w) (hx:VR G I x a)
  (hu:(P.underlying t=some .string∧l= .str)∨(∃ e,P.underlying t=some (.slice e)∧l= .sl)∨(∃ k e,P.underlying t=some (.map k e)∧l= .mp)∨(∃ n e,P.underlying t=some (.array n e)∧l= .arr n)∨
   (∃ p n e,P.underlying t=some (.pointer p)∧P.underlying p=some (.array n e)∧l= .arr n)) (hv:z9y h l x=some v):
  ∃ cv,(Builtin.len_ #[t] ty #[a]).run P w= .ok cv w∧VR G I v cv:=by
 rcases hu with ⟨hu,rfl⟩ | ⟨e,hu,rfl⟩ | ⟨k,e,hu,rfl⟩ | ⟨n,e,hu,rfl⟩ | ⟨p,n,e,hu,hu2,rfl⟩
 ·cases x <;> simp[z9y] at hv
  rename_i s
  subst hv
  simp only[VR] at hx
  obtain⟨rfl,_⟩:=hx
  exact⟨.int .i64 s.length,by simp[Builtin.len_,run_underlying hu,goInt,z4v],by simp[VR]⟩
 ·cases x <;> simp[z9y] at hv
  ·rename_i xs tp
   subst hv
   simp only[VR] at hx
   obtain⟨A,n,c,rfl,rfl,_⟩:=hx
   exact⟨.int .i64 xs.length,by simp[Builtin.len_,run_underlying hu,goInt],by simp[VR]⟩
  ·rename_i s g o l
   subst hv
   simp only[VR] at hx
   obtain⟨i,A,c,_,_,rfl,_⟩:=hx
   exact⟨.int .i64 l,by simp[Builtin.len_,run_underlying hu,goInt],by simp[VR]⟩
 ·cases x <;> simp only[z9y,Option.map_eq_some_iff,Option.some.injEq] at hv <;> try (simp at hv;done)
  ·rename_i s g
   obtain⟨es,hes,rfl⟩:=hv
   simp only[VR] at hx
   obtain⟨i,hi,_,rfl⟩:=hx
   obtain⟨i',ents,clk,hi',_,hw,hm⟩:=rel.obj s _ (x4m hes)
   obtain rfl:i=i':=by rw[hi] at hi';simpa using hi'
   have hlen:∀ {xs:List (AV×AV)} {ms:List MapEntry},MapR G I xs ms→ms.length=xs.length:=by
    intro xs
    induction xs with
    | nil=>intro ms hm;cases hm;rfl
    | cons x xs ih=>
      intro ms hm
      obtain⟨e,rest,rfl,_,_,h3⟩:=hm
      simp[ih h3]
   refine⟨.int .i64 es.length, ?_,by simp[VR]⟩
   have:=hlen hm
   simp at this
   simp[Builtin.len_,run_underlying hu,goInt,getObj,Sem.run,hw,this]
  ·subst hv
   simp only[VR] at hx
   subst hx
   exact⟨.int .i64 0,by simp[Builtin.len_,run_underlying hu,goInt],by simp[VR]⟩
 ·simp[z9y] at hv
  subst hv
  exact⟨.int .i64 n,by simp[Builtin.len_,run_underlying hu,goInt],by simp[VR]⟩
 ·simp[z9y] at hv
  subst hv
  exact⟨.int .i64 n,by simp[Builtin.len_,run_underlying hu,run_underlying hu2,goInt],by simp[VR]⟩
theorem w4s {x v:AV} {a:Value} {t ty e:TypeId} (hx:VR G I x a) (hu:P.underlying t=some (.slice e)) (hv:z9y h .cap x=some v):
  ∃ cv,(Builtin.cap_ #[t] ty #[a]).run P w= .ok cv w∧VR G I v cv:=by
 cases x <;> simp[z9y] at hv
 rename_i xs tp
 obtain⟨ht,rfl⟩:=hv
 simp only[VR] at hx
 obtain⟨A,n,c,rfl,rfl,_,hc,_⟩:=hx
 have:c=xs.length:=by
  rcases ht with rfl | rfl
  ·simp only[TipR] at hc
   omega
  ·exact hc
 subst this
 exact⟨.int .i64 xs.length,by simp[Builtin.cap_,run_underlying hu,goInt],by simp[VR]⟩
end
section
variable {P:Program} {G:Ghost} {I:Imm} {h:List AObj} {w:World} {gen slot:Nat}
theorem z6f {e:TypeId} {sz:Nat} (hsz:sizeP P e=some sz) (w:World):(sizeOf e).run P w= .ok sz w:=by
 unfold sizeP at hsz
 cases hi:P.info? e with
 | none=>simp[hi] at hsz
 | some i=>simp[hi] at hsz;simp[sizeOf,typeInfo,hi,hsz]
theorem j3j {v:Value} {x:AV} (hc:j6m v=some x):VR G I x v:=by
 unfold j6m at hc
 split at hc <;> simp at hc <;> subst hc <;> simp only[VR]
 ·rename_i s
  refine⟨?_, ?_⟩
  ·congr 1
   apply ByteArray.ext
   apply Array.ext'
   simp only[z8f,List.map_map]
   rw[show (UInt8.ofNat∘fun (x:UInt8)=>x.toNat)=id from by funext x;simp]
   simp
  ·intro b hb
   simp at hb
   obtain⟨u,_,rfl⟩:=hb
   exact UInt8.toNat_lt u
 ·exact⟨none,0,0,rfl,rfl,Nat.le_refl _,⟨rfl,rfl,rfl⟩, .inl rfl⟩
theorem j3k:∀ {vs:List Value} {xs:List AV},j9f vs=some xs→VRL G I xs vs
 | [],xs,hc=>by simp[j9f] at hc;subst hc;simp[VRL]
 | v::vs,xs,hc=>by
   simp only[j9f] at hc
   split at hc
   ·rename_i a b ha hb
    simp at hc
    subst hc
    simp only[VRL]
    exact⟨v,vs,rfl,j3j ha,j3k hb⟩
   ·simp at hc
theorem j9s {v:Value} {x:AV} (hc:v6k v=some x):VR G I x v:=by
 unfold v6k at hc
 split at hc
 ·simp at hc
  obtain⟨cs,h1,rfl⟩:=hc
  simp only[VR]
  exact⟨_,rfl,j3k h1⟩
 ·exact j3j hc
def TR (G:Ghost) (I:Imm) (ts:Tmps) (ρ:Operand→Value):Prop:=
 (∀ t,VR G I (ts t) (ρ (.tmp t)))∧(∀ v,ρ (.const v)=v)∧∀ f,ρ (.func f)= .func (.func f) #[] #[]
theorem z1i {ts:Tmps} {ρ:Operand→Value} {o:Operand} {x:AOpd} (ht:TR G I ts ρ) (hc:z6o o=some x):VR G I (x.ev ts) (ρ o):=by
 cases o with
 | tmp t=>simp[z6o] at hc;subst hc;exact ht.1 t
 | const v=>
   simp[z6o] at hc
   subst hc
   simp only[AOpd.ev,ht.2.1]
   cases hv:v6k v with
   | none=>simp[VR]
   | some x=>exact j9s hv
 | func f=>
   simp[z6o] at hc
   subst hc
   simp only[AOpd.ev,ht.2.2]
   by_cases hf:f < z5n
   ·rw[if_pos hf]
    simp only[VR,j9e hf]
    exact⟨#[],rfl,by simp[VRL]⟩
   ·rw[if_neg hf]
    simp[VR]
 | global g=>simp[z6o] at hc;subst hc;simp[AOpd.ev,VR]
theorem q8c {ts:Tmps} {ρ:Operand→Value} (ht:TR G I ts ρ):∀ {os:List Operand} {xs:List AOpd},x4k os=some xs→VRL G I (xs.map (·.ev ts)) (os.map ρ)
 | [],xs,hc=>by simp[x4k] at hc;subst hc;simp[VRL]
 | o::os,xs,hc=>by
   simp only[x4k] at hc
   split at hc
   ·rename_i a b ha hb
    simp at hc
    subst hc
    simp only[List.map_cons,VRL]
    exact⟨_,_,rfl,z1i ht ha,q8c ht hb⟩
   ·simp at hc
theorem q2x {ts:Tmps} {ρ:Operand→Value} (ht:TR G I ts ρ) {o:Option Operand} {x:Option AOpd} (hc:q7x o=some x):OR G I (x.map (·.ev ts)) (o.map ρ):=by
 cases o with
 | none=>simp[q7x] at hc;subst hc;trivial
 | some o=>
   simp[q7x] at hc
   obtain⟨a,h1,rfl⟩:=hc
   exact z1i ht h1
theorem z9m {t:TypeId} {z:AV} (hz:zeroP P t=some z):∃ i zv,P.info? t=some i∧i.zero=some zv∧VR G I z zv:=by
 unfold zeroP at hz
 cases hi:P.info? t with
 | none=>simp[hi] at hz
 | some i=>
   cases hzz:i.zero with
   | none=>simp[hi,hzz] at hz
   | some zv=>
     simp[hi,hzz] at hz
     exact⟨i,zv,rfl,hzz,j9s hz⟩
theorem j9t {t:TypeId} {cells:List AV} {cs:Array Value} {off:Nat} {sz:Option Nat} {v:AV} (ha:ArrR G I cells cs) (hs:z8d P t=some sz) (hr:z2f cells off sz=some v):
  ∃ cv,(part t cs off).run P w= .ok cv w∧VR G I v cv:=by
 cases hu:P.underlying t with
 | none=>simp[z8d,hu] at hs
 | some d=>
   have hagg:=q0c (w:=w) hu
   by_cases hd:j6n d=true
   ·obtain⟨n,hn,rfl⟩:∃ n,sizeP P t=some n∧sz=some n:=by
     unfold z8d at hs
     rw[hu] at hs
     cases d <;> simp[j6n] at hd <;> (simp at hs;obtain⟨n,h1,h2⟩:=hs;exact⟨n,h1,h2.symm⟩)
    simp only[z2f] at hr
    split at hr
    ·rename_i hle
     simp only[Option.some.injEq] at hr
     subst hr
     refine⟨.agg (cs.extract off (off + n)),by simp[part,hagg,hd,z6f hn], ?_⟩
     refine ArrR.agg ⟨?_,fun j c hj=> ?_⟩
     ·have:=ha.1
      simp
      omega
     ·have hjn:j < n:=by
       have:=(List.getElem?_eq_some_iff.1 hj).1
       simp at this
       omega
      rw[List.getElem?_take_of_lt hjn,List.getElem?_drop] at hj
      obtain⟨u,hu,hv⟩:=ha.2 (off + j) c hj
      refine⟨u, ?_,hv⟩
      have h1:=ha.1
      have:j < min (off + n) cs.size - off:=by omega
      rw[Array.getElem?_extract]
      simp[this,hu]
    ·simp at hr
   ·have hz:sz=none:=by
     unfold z8d at hs
     rw[hu] at hs
     cases d <;> first | (simp[j6n] at hd;done) | (simp at hs;exact hs.symm)
    subst hz
    simp only[z2f] at hr
    obtain⟨u,h1,h2⟩:=ha.2 off v hr
    have hd':j6n d=false:=by simpa using hd
    exact⟨u,by simp[part,hagg,hd',h1],h2⟩
theorem x2m {t ft:TypeId} {f o:Nat} (hf:q6b P t f=some (o,ft)):∃ fs fd,P.underlying t=some (.struct fs)∧fs[f]? =some fd∧fd.offset=o∧fd.type=ft:=by
 unfold q6b at hf
 split at hf
 ·rename_i fs hu
  simp at hf
  obtain⟨fd,h1,h2,h3⟩:=hf
  exact⟨fs,fd,hu,h1,h2,h3⟩
 ·simp at hf
theorem k5q {t ft:TypeId} {f o:Nat} {sz:Option Nat} {cs:List AV} {a:Value} {v:AV} (hx:VR G I (.agg cs) a) (hf:q6b P t f=some (o,ft)) (hs:z8d P ft=some sz) (hr:z2f cs o sz=some v):
  ∃ cv,(Instr.field t a f).run P w= .ok cv w∧VR G I v cv:=by
 obtain⟨fs,fd,hu,h1,rfl,rfl⟩:=x2m hf
 obtain⟨vs,rfl,ha⟩:=ArrR.of_agg hx
 obtain⟨cv,h2,h3⟩:=j9t (w:=w) ha hs hr
 exact⟨cv,by simp[Instr.field,run_underlying hu,h1,asAgg,h2],h3⟩
theorem x2n {t ft:TypeId} {f o:Nat} {b p:Nat} (hf:q6b P t f=some (o,ft)) {n:Nat} (hs:sizeP P ft=some (n + 1)):
  (Instr.fieldAt t (.pointer (some ⟨b,p,none⟩)) f).run P w= .ok (.pointer (some ⟨b,p + o,none⟩)) w:=by
 obtain⟨fs,fd,hu,h1,rfl,rfl⟩:=x2m hf
 have hz:=z6f hs
 simp[Instr.fieldAt,run_underlying hu,h1,Instr.sureAddr,fieldPlace,hz,Addr.add_lit]
theorem j6r {t e:TypeId} {sz:Nat} {k:IntKind} {i:Int} {xs:List AV} {tp:Tip} {x:AV} {a:Value} (hu:P.underlying t=some (.slice e)) (hs:sizeP P e=some sz) (hx:VR G I (.sl xs tp) a)
  (h0:0≤i) (he:xs[i.toNat]? =some x) (hl:x.cells.length=sz):∃ cv,(Instr.indexAt t a (.int k i)).run P w= .ok cv w∧VR G I (.iptr x.cells 0) cv:=by
 simp only[VR] at hx
 obtain⟨A,n,c,rfl,rfl,_,_,hrow⟩:=hx
 have hlt:=(List.getElem?_eq_some_iff.1 he).1
 rcases hrow with h | ⟨b,o,e',rfl,_,hrow⟩
 ·omega
 ·obtain⟨h1,h2⟩:=z6j.1 hrow _ _ he
  obtain rfl:e'=sz:=by omega
  have hc:0≤i∧i < (xs.length:Int):=⟨h0,by omega⟩
  refine⟨.pointer (some ⟨b,o + i.toNat * e',none⟩), ?_, ?_⟩
  ·simp[Instr.indexAt,asIntOf,run_underlying hu,hc,z6f hs,Addr.add_lit]
  ·simp only[VR]
   exact⟨b,o + i.toNat * e',rfl,h2⟩
theorem j6s {t e:TypeId} {sz:Nat} {k:IntKind} {i:Int} {s g off len:Nat} {es:List AV} {row grow:Bool} {fz:Nat} {x:AV} {a:Value} (rel:Rel G I h w) (hu:P.underlying t=some (.slice e)) (hs:sizeP P e=some sz) (hx:VR G I (.ob s g off len) a)
  (hb:z1s h s g=some (es,row,grow,fz)) (h0:0≤i) (he:es[off + i.toNat]? =some x) (hlt:i.toNat < len) (hl:x.cells.length=sz):
  ∃ cv,(Instr.indexAt t a (.int k i)).run P w= .ok cv w∧VR G I (.ptr s g (off + i.toNat) 0) cv:=by
 simp only[VR] at hx
 obtain⟨gi,A,c,hg,hsl,rfl,hlc,hoc,hA⟩:=hx
 obtain⟨gi',cs,ty,hg',_,_,_,_,_,_,_,hE,_⟩:=rel.obj s _ (z9l hb)
 obtain rfl:gi=gi':=by rw[hg] at hg';simpa using hg'
 have hz:=(hE _ _ he).1
 obtain rfl:gi.esz=sz:=by omega
 rcases hA with h | rfl
 ·omega
 ·have hc:0≤i∧i < (len:Int):=⟨h0,by omega⟩
  refine⟨.pointer (some ⟨gi.blk,off * gi.esz + i.toNat * gi.esz,none⟩), ?_, ?_⟩
  ·simp[Instr.indexAt,asIntOf,run_underlying hu,hc,z6f hs,Addr.add_lit]
  ·simp only[VR]
   exact⟨gi,hg,hsl,by rw[Nat.add_mul];rfl⟩
theorem q8w {t e:TypeId} {n sz:Nat} {k:IntKind} {i:Int} {b p:Nat} (hu:P.underlying t=some (.array n e)) (hs:sizeP P e=some sz) (h0:0≤i) (hlt:i.toNat < n):
  (Instr.indexAt t (.pointer (some ⟨b,p,none⟩)) (.int k i)).run P w= .ok (.pointer (some ⟨b,p + i.toNat * sz,none⟩)) w:=by
 have hc:0≤i∧i < (n:Int):=⟨h0,by omega⟩
 simp[Instr.indexAt,asIntOf,run_underlying hu,Instr.sureAddr,hc,z6f hs,Addr.add_lit]
theorem j0k {t e:TypeId} {n sz:Nat} {l:Option Nat} {k:IntKind} {i:Int} {cs:List AV} {a:Value} {v:AV} (hu:P.underlying t=some (.array n e)) (hs:sizeP P e=some sz) (hl:z8d P e=some l) (hx:VR G I (.agg cs) a)
  (h0:0≤i) (hlt:i.toNat < n) (hr:z2f cs (i.toNat * sz) l=some v):∃ cv,(Instr.index t a (.int k i)).run P w= .ok cv w∧VR G I v cv:=by
 obtain⟨vs,rfl,ha⟩:=ArrR.of_agg hx
 obtain⟨cv,h2,h3⟩:=j9t (w:=w) ha hl hr
 have hc:0≤i∧i < (n:Int):=⟨h0,by omega⟩
 exact⟨cv,by simp[Instr.index,asIntOf,run_underlying hu,hc,z6f hs,h2],h3⟩
theorem j0l {t:TypeId} {k:IntKind} {i:Int} {s:List Nat} {b:Nat} {a:Value} (hu:P.underlying t=some .string) (hx:VR G I (.str s) a) (h0:0≤i) (he:s[i.toNat]? =some b):
  ∃ cv,(Instr.index t a (.int k i)).run P w= .ok cv w∧VR G I (.int .u8 (Int.ofNat b)) cv:=by
 simp only[VR] at hx
 obtain⟨rfl,hs⟩:=hx
 have hb:=hs b (List.mem_of_getElem? he)
 have hg:(z8f s)[i.toNat]? =some (UInt8.ofNat b):=by
  have h1:i.toNat < (z8f s).size:=by
   rw[z4v]
   exact (List.getElem?_eq_some_iff.1 he).1
  rw[getElem?_pos (z8f s) i.toNat h1]
  congr 1
  show (z8f s).data[i.toNat]=_
  have:=(List.getElem?_eq_some_iff.1 he).2
  simp[z8f,this]
 refine⟨.int .u8 (Int.ofNat b), ?_,by simp only[VR]⟩
 simp[Instr.index,asIntOf,run_underlying hu,h0,hg,q0v hb]
theorem j6t {cs:List AV} {i:Nat} {a:Value} {v:AV} (hx:VR G I (.tup cs) a) (he:cs[i]? =some v):∃ cv,(Instr.extract a i).run P w= .ok cv w∧VR G I v cv:=by
 simp only[VR] at hx
 obtain⟨vs,rfl,h1⟩:=hx
 obtain⟨h2,h3⟩:=z9v.1 h1
 have hl:i < vs.toList.length:=by
  rw[←h2]
  exact (List.getElem?_eq_some_iff.1 he).1
 have hl':i < vs.size:=by simpa using hl
 refine⟨vs[i],by simp[Instr.extract,hl'],h3 i v _ he ?_⟩
 rw[Array.getElem?_toList,Array.getElem?_eq_getElem hl']
theorem x7l {mx:Bool} {k j:IntKind} {a b:Int} {tys:Array TypeId} {ty:TypeId}:
  ((if mx then Builtin.max_ else Builtin.min_) tys ty #[.int k a, .int j b]).run P w= .ok (.int k (if mx then (if b > a then b else a) else (if b < a then b else a))) w:=by
 cases mx <;> simp[Builtin.max_,Builtin.max2,Builtin.min_,Builtin.min2]
theorem k5r {s g off len l r:Nat} {es:List AV} {row grow:Bool} {fz:Nat} {t e:TypeId} {sz:Nat} {a:Value} {lo hi:Option AV} {clo chi:Option Value} (rel:Rel G I h w) (hx:VR G I (.ob s g off len) a) (hu:P.underlying t=some (.slice e)) (hsz:sizeP P e=some sz)
  (hb:z1s h s g=some (es,row,grow,fz)) (hh:z5m sz es=true) (hlo:OR G I lo clo) (hhi:OR G I hi chi) (hl:z5l 0 lo=some l) (hr:z5l len hi=some r) (hlr:l≤r)
  (hfit:if grow=true then r≤len∧off + len≤es.length else off + r≤es.length):
  ∃ cv,(Instr.sliceAt t a clo chi none).run P w= .ok cv w∧VR G I (.ob s g (off + l) (r - l)) cv:=by
 simp only[VR] at hx
 obtain⟨gi,A,c,hg,hsl,rfl,hlc,hoc,hA⟩:=hx
 obtain⟨gi',cs,ty,hg',_,_,_,hpos,hcap,hgr,_,hE,_⟩:=rel.obj s _ (z9l hb)
 obtain rfl:gi=gi':=by rw[hg] at hg';simpa using hg'
 have hrc:r≤c:=by
  cases grow with
  | true=>simp at hfit;omega
  | false=>
    have:=hgr rfl
    simp at hfit
    omega
 have hbd:=z9w (P:=P) (w:=w) (isSlice:=true) (cap:=c) hlo hhi hl hr hlr hrc
 have hrun:(Instr.sliceAt t (.slice A len c) clo chi none).run P w= .ok (.slice (if c=l then A else A.map (·.add (l * sz))) (r - l) (c - l)) w:=by
  simp only[Instr.sliceAt,Sem.run_bind,run_underlying hu,Result.andThen]
  simp only[Instr.slice,Sem.run_bind,run_underlying hu,Result.andThen,hbd,z6f hsz,Sem.run_pure]
 refine⟨.slice (if c=l then A else A.map (·.add (l * sz))) (r - l) (c - l),hrun, ?_⟩
 simp only[VR]
 refine⟨gi,(if c=l then A else A.map (·.add (l * sz))),c - l,hg,hsl,rfl,by omega,by omega, ?_⟩
 by_cases hcl:c=l
 ·exact .inl (by omega)
 ·rw[if_neg hcl]
  rcases hA with h0 | rfl
  ·omega
  ·refine .inr ?_
   simp only[Option.map_some,Addr.add_lit]
   by_cases hl0:l=0
   ·subst hl0;simp
   ·cases es with
    | nil=>
      exfalso
      simp at hfit
      cases grow <;> simp at hfit <;> omega
    | cons x es=>
      have h1:=(hE 0 x rfl).1
      simp[z5m] at hh
      rw[←hh,h1,Nat.add_mul]
theorem x7m {src dst e:TypeId} {s:List Nat} {a:Value} {r:Result Next} (hg:G gen=none) (rel:Rel G I h w) (hs:P.underlying src=some .string) (hd:P.underlying dst=some (.slice e)) (he:P.underlying e=some (.int .u8)) (hx:VR G I (.str s) a)
  (hr:r=((convert src dst a).bind fun v=>Sem.pure (.value v)).run P w):Step G I h w gen slot r (.sl (s.map fun (b:Nat)=> .int .u8 (Int.ofNat b)) .no) h:=by
 simp only[VR] at hx
 obtain⟨rfl,hb⟩:=hx
 have hrun:=run_bytes_of_string w src dst e (z8f s) hs hd he
 generalize hcap:grownCap w (z8f s).size 0 e=cap at hrun
 have hge:s.length≤cap:=by
  have:=grownCap_ge w (z8f s).size 0 e
  rw[z4v] at this hcap
  omega
 generalize hrow:bytesRow (z8f s) cap=row at hrun
 have hget:∀ (j b:Nat),s[j]? =some b→row[j]? =some (Value.int .u8 (Int.ofNat b)):=by
  intro j b hj
  have hlt:=(List.getElem?_eq_some_iff.1 hj).1
  have hv:=(List.getElem?_eq_some_iff.1 hj).2
  subst hrow
  unfold bytesRow
  have hsz:j < (Array.map (fun b:UInt8=>Value.int .u8 b.toNat) (z8f s).data).size:=by simpa [z8f] using hlt
  rw[Array.getElem?_append_left hsz]
  have:b < 256:=hb b (List.mem_of_getElem? hj)
  simp[z8f,hlt,hv]
  omega
 have hall:∀ j,j < row.size→∃ v,row[j]? =some v:=fun j hj=>⟨row[j],Array.getElem?_eq_getElem hj⟩
 let I':Imm:=fun b o=>if b=w.heap.size then row[o]? else I b o
 have hI:ILe I I':=fun b o v hv=>by
  have hlt:=World.block_lt_of_cell? w _ (rel.imm b o v hv)
  simp at hlt
  show (if b=w.heap.size then row[o]? else I b o)=some v
  rw[if_neg (by omega)]
  exact hv
 let w':=w.drew.alloc (.cells row e (row.size,row.size + 1))
 have hold:∀ (b:Nat) (x:Obj),w.heap[b]? =some x→w'.heap[b]? =some x:=fun b x hb=>z3f w.drew _ hb
 have hr0:=rel.world hold
 have hrel:Rel G I' h w':=by
  refine⟨fun b o v hv=> ?_,fun i o ho=> ?_,hr0.inj⟩
  ·have:(if b=w.heap.size then row[o]? else I b o)=some v:=hv
   split at this
   ·rename_i e;subst e
    have:=z7o w.drew (.cells row e (row.size,row.size + 1))
    simp only[World.cell?]
    show (match w'.heap[w.heap.size]? with | some (.cells cs _ _)=>cs[o]? | _=>none)=some v
    rw[show w'.heap[w.heap.size]? =some (.cells row e (row.size,row.size + 1)) from this]
    assumption
   ·exact hr0.imm b o v this
  ·have hob:=hr0.obj i o ho
   have hnb:∀ b,own G o=some b→b≠w.heap.size:=fun b hb=>by
    have:=q0a (rel.obj i o ho) hb
    omega
   have hother:∀ b o v,b≠w.heap.size→I' b o=some v→I b o=some v:=fun b o v hb hv=>by
    have:(if b=w.heap.size then row[o]? else I b o)=some v:=hv
    rwa [if_neg hb] at this
   cases o with
   | dead=>trivial
   | blk g' es' row' grow' fz'=>
     obtain⟨i',cs',t',h1,h2,h3,h4,h5,h6,h7,h8,h9,h10⟩:=hob
     have:=hnb i'.blk (by simp[own,h1])
     exact⟨i',cs',t',h1,h2,h3,h4,h5,h6,h7,h8,h9.mono (GLe.refl _) hI,fun o v hv=>h10 o v (hother _ _ _ this hv)⟩
   | tip g' e=>
     obtain⟨i',h1,h2,h3,h4⟩:=hob
     refine⟨i',h1,h2,h3,fun hr=> ?_⟩
     obtain⟨cs',t',h5,h6,h7⟩:=h4 hr
     have:=hnb i'.blk (by simp[own,h1,hr])
     exact⟨cs',t',h5,h6,fun o v hv=>h7 o v (hother _ _ _ this hv)⟩
   | map g' es'=>
     obtain⟨i',ents,clk,h1,h2,h3,h4⟩:=hob
     exact⟨i',ents,clk,h1,h2,h3,h4.mono (GLe.refl _) hI⟩
 refine Step.quiet hg hrel hI (cv:= .slice (some ⟨w.heap.size,0,none⟩) (z8f s).size cap) ?_ ?_ (((Fr.refl G h w).drew).alloc _) (fun b hb _ o v hv=>by
  have:(if b=w.heap.size then row[o]? else I b o)=some v:=hv
  rwa [if_neg (by omega)] at this)
 ·rw[hr]
  show Sem.run P ((convert src dst (.string (z8f s))).bind _) w=_
  have hbind:∀ (x:Sem Value) (f:Value→Sem Next),(x.bind f).run P w=(x.run P w).andThen fun v w'=>(f v).run P w':=fun x f=>Sem.run_bind (P:=P) w x f
  rw[hbind,hrun]
  rfl
 ·simp only[VR]
  refine⟨_,_,_,rfl,by simp[z4v],by rw[z4v];exact hge,trivial, ?_⟩
  by_cases hn:s.length=0
  ·exact .inl (by rw[z4v];exact hn)
  ·refine .inr ⟨w.heap.size,0,1,rfl,by omega,z6j.2 fun k x hx=> ?_⟩
   simp only[List.getElem?_map,Option.map_eq_some_iff] at hx
   obtain⟨b,hb1,rfl⟩:=hx
   refine⟨rfl,z7j.2 fun i c hc=> ?_⟩
   cases i with
   | zero=>
     simp[AV.cells] at hc
     subst hc
     refine⟨.int .u8 (Int.ofNat b), ?_,by simp only[VR];rfl⟩
     show (if w.heap.size=w.heap.size then row[0 + k * 1 + 0]? else _)=_
     rw[if_pos rfl]
     simpa using hget k b hb1
   | succ i=>simp[AV.cells] at hc
end
section
variable {P:Program} {G:Ghost} {I:Imm} {h:List AObj} {w:World} {gen slot:Nat}
theorem ObjR.shift {G':Ghost} {I':Imm} {w':World} {s:Nat} {o:AObj} (hG:GLe G G') (hI:ILe I I') (hw:∀ b,own G o=some b→w'.heap[b]? =w.heap[b]?)
  (hI':∀ b,own G o=some b→∀ o v,I' b o=some v→I b o=some v) (ho:ObjR G I w s o):ObjR G' I' w' s o:=by
 cases o with
 | dead=>trivial
 | blk g es row grow fz=>
   obtain⟨i,cs,t,h1,h2,h3,h4,h5,h6,h7,h8,h9,h10⟩:=ho
   have hb:own G (.blk g es row grow fz)=some i.blk:=by simp[own,h1]
   exact⟨i,cs,t,hG _ _ h1,h2,by rw[hw _ hb];exact h3,h4,h5,h6,h7,h8,h9.mono hG hI,fun o v hv=>h10 o v (hI' _ hb _ _ hv)⟩
 | tip g e=>
   obtain⟨i,h1,h2,h3,h4⟩:=ho
   refine⟨i,hG _ _ h1,h2,h3,fun hr=> ?_⟩
   obtain⟨cs,t,h5,h6,h7⟩:=h4 hr
   have hb:own G (.tip g e)=some i.blk:=by simp[own,h1,hr]
   exact⟨cs,t,by rw[hw _ hb];exact h5,h6,fun o v hv=>h7 o v (hI' _ hb _ _ hv)⟩
 | map g es=>
   obtain⟨i,ents,clk,h1,h2,h3,h4⟩:=ho
   have hb:own G (.map g es)=some i.blk:=by simp[own,h1]
   exact⟨i,ents,clk,hG _ _ h1,h2,by rw[hw _ hb];exact h3,h4.mono hG hI⟩
theorem Rel.shift {G':Ghost} {I':Imm} {w':World} {B:Nat} (rel:Rel G I h w) (hG:GLe G G') (hI:ILe I I') (hno:∀ (j:Nat) o,h[j]? =some o→own G o≠some B)
  (hw:∀ (b:Nat) (x:Obj),b≠B→w.heap[b]? =some x→w'.heap[b]? =some x) (hI':∀ b o v,b≠B→I' b o=some v→I b o=some v)
  (hB:∀ o v,I' B o=some v→w'.cell? ⟨B,o,none⟩=some v):Rel G' I' h w':=by
 refine⟨fun b o v hv=> ?_,fun i o ho=> ?_,fun i j oi oj b hi hj h1 h2=> ?_⟩
 ·by_cases hb:b=B
  ·subst hb;exact hB o v hv
  ·exact z5t (rel.imm b o v (hI' b o v hb hv)) (fun x hx=>hw b x hb hx)
 ·have hob:=rel.obj i o ho
  refine hob.shift hG hI (fun b hb=> ?_) (fun b hb o v hv=>hI' b o v (fun e=>hno i _ ho (by rw[←e];exact hb)) hv)
  obtain⟨x,hx⟩:=q1w hob hb
  rw[hx,hw b x (fun e=>hno i _ ho (by rw[←e];exact hb)) hx]
 ·rw[q0t hG (rel.obj i oi hi)] at h1
  rw[q0t hG (rel.obj j oj hj)] at h2
  exact rel.inj i j oi oj b hi hj h1 h2
theorem Step.pre {I1:Imm} {h' h'':List AObj} {r:Result Next} {v:AV} (hs:Step G I1 h' w gen slot r v h'') (hI:ILe I I1) (hN:NoNew G h I I1)
  (hown:∀ (i:Nat) o b,h'[i]? =some o→own G o=some b→∃ (j:Nat) (x:AObj),h[j]? =some x∧own G x=some b):Step G I h w gen slot r v h'':=by
 obtain⟨nx,cv,w',G',I',h1,h2,h3,h4,h5,h6,h7,h8,h9,h10,h11⟩:=hs
 refine⟨nx,cv,w',G',I',h1,h2,h3,h4,h5,hI.trans h6,h7,h8,fun i o b hi hb=> ?_,⟨h10.os,h10.tape,h10.output,h10.size,fun b hb hn=>h10.kept b hb fun i o hi ho=> ?_⟩,fun b hb hn o v hv=>hN b hn o v (h11 b hb (fun i x hi hx=> ?_) o v hv)⟩
 ·rcases h9 i o b hi hb with ⟨j,x,hj,hx⟩ | hge
  ·exact .inl (hown j x b hj hx)
  ·exact .inr hge
 ·obtain⟨j,x,hj,hx⟩:=hown i o b hi ho
  exact hn j x hj hx
 ·obtain⟨j,y,hj,hy⟩:=hown i x b hi hx
  exact hn j y hj hy
theorem z8v {h1:List AObj} (f:Frozen h h1) (i:Nat) (o:AObj) (b:Nat) (hi:h1[i]? =some o) (hb:own G o=some b):∃ (j:Nat) (x:AObj),h[j]? =some x∧own G x=some b:=by
 obtain⟨o',h2,h3⟩:=q6d f hi hb
 exact⟨i,o',h2,h3⟩
theorem q3o {s i b:Nat} {o:AObj} (hi:(h.set s .dead)[i]? =some o) (hb:own G o=some b):i≠s∧h[i]? =some o:=by
 rcases getElem?_set_cases hi with ⟨_,rfl⟩ | ⟨h1,h2⟩
 ·simp[own] at hb
 ·exact⟨h1,h2⟩
theorem Step.make {r:Result Next} {v:AV} {cv:Value} {w':World} {I':Imm} {h1:List AObj} {o:AObj} {i:GInfo} (hg:G gen=none) (hsl:i.slot=slot) (rel1:Rel G I h1 w)
  (hown:∀ (i:Nat) o b,h1[i]? =some o→own G o=some b→∃ (j:Nat) (x:AObj),h[j]? =some x∧own G x=some b)
  (hB:w.heap.size≤i.blk∨∃ (j:Nat) (x:AObj),h[j]? =some x∧own G x=some i.blk) (hno:∀ (j:Nat) o,h1[j]? =some o→own G o≠some i.blk)
  (hI:ILe I I') (hw:∀ (b:Nat) (x:Obj),b≠i.blk→w.heap[b]? =some x→w'.heap[b]? =some x) (hI':∀ b o v,b≠i.blk→I' b o=some v→I b o=some v)
  (hBI:∀ o v,I' i.blk o=some v→w'.cell? ⟨i.blk,o,none⟩=some v)
  (ho:ObjR (G.put gen i) I' w' slot o) (hoB:∀ b,own (G.put gen i) o=some b→b=i.blk)
  (hos:w'.os=w.os) (htp:w'.tape=w.tape) (hout:w'.output=w.output) (hsz:w.heap.size≤w'.heap.size)
  (hr:r= .ok (.value cv) w') (hv:VR (G.put gen i) I' v cv):Step G I h w gen slot r v (h1.set slot o):=by
 have hG:=Ghost.put_le (G:=G) (g:=gen) i hg
 refine⟨_,cv,w',G.put gen i,I',hr, .inl rfl,hv, ?_,hG,hI,fun g hg'=>Ghost.put_other hg',fun j hj=> ?_,fun k x b hk hb=> ?_,⟨hos,htp,hout,hsz,fun b hb hn=> ?_⟩,fun b hb hn o v hv=>hI' b o v ?_ hv⟩
 ·refine (rel1.shift hG hI hno hw hI' hBI).set slot o ho fun j oj b _ hj h2 h3=> ?_
  rw[q0t hG (rel1.obj j oj hj)] at h2
  have:=hoB b h3
  subst this
  exact hno j oj hj h2
 ·simp at hj
  subst hj
  exact hsl
 ·rcases getElem?_set_cases hk with ⟨_,rfl⟩ | ⟨_,hk⟩
  ·have:=hoB b hb
   subst this
   rcases hB with hB | hB
   ·exact .inr hB
   ·exact .inl hB
  ·rw[q0t hG (rel1.obj k x hk)] at hb
   exact .inl (hown k x b hk hb)
 ·have hbB:b≠i.blk:=by
   rintro rfl
   rcases hB with hB | ⟨j,x,hj,hx⟩
   ·omega
   ·exact hn j x hj hx
  rw[hw b w.heap[b] hbB (Array.getElem?_eq_getElem hb),Array.getElem?_eq_getElem hb]
 ·rintro rfl
  rcases hB with hB | ⟨j,x,hj,hx⟩
  ·omega
  ·exact hn j x hj hx
theorem Step.row {r:Result Next} {v:AV} {cv:Value} {w':World} {I':Imm} (hg:G gen=none) (rel:Rel G I h w)
  (hI:ILe I I') (hw:∀ (b:Nat) (x:Obj),w.heap[b]? =some x→w'.heap[b]? =some x) (hI':∀ b o v,b≠w.heap.size→I' b o=some v→I b o=some v)
  (hBI:∀ o v,I' w.heap.size o=some v→w'.cell? ⟨w.heap.size,o,none⟩=some v)
  (hos:w'.os=w.os) (htp:w'.tape=w.tape) (hout:w'.output=w.output) (hsz:w.heap.size≤w'.heap.size)
  (hr:r= .ok (.value cv) w') (hv:VR G I' v cv):Step G I h w gen slot r v h:=by
 refine Step.quiet hg (rel.shift (GLe.refl _) hI (B:=w.heap.size) (fun j o hj ho=> ?_) (fun b x _ hx=>hw b x hx) hI' hBI) hI hr hv ⟨hos,htp,hout,hsz,fun b hb _=> ?_⟩ (fun b hb _ o v hv=>hI' b o v (by omega) hv)
 ·have:=q0a (rel.obj j o hj) ho
  omega
 ·rw[hw b w.heap[b] (Array.getElem?_eq_getElem hb),Array.getElem?_eq_getElem hb]
def z7d (I:Imm) (B n:Nat) (cs:Array Value):Imm:=fun b o=>if b=B∧o < n then cs[o]? else I b o
theorem q8x {B n:Nat} {cs:Array Value} (hB:∀ o v,I B o=some v→o < n→cs[o]? =some v):ILe I (z7d I B n cs):=fun b o v hv=>by
 unfold z7d
 split
 ·rename_i hc
  obtain⟨rfl,h2⟩:=hc
  exact hB o v hv h2
 ·exact hv
theorem q1x {B n:Nat} {cs:Array Value} (b o:Nat) (v:Value) (hb:b≠B) (hv:z7d I B n cs b o=some v):I b o=some v:=by
 unfold z7d at hv
 rw[if_neg (fun hc=>hb hc.1)] at hv
 exact hv
theorem q8y {B n:Nat} {cs:Array Value} (o:Nat) (ho:o < n):z7d I B n cs B o=cs[o]? :=by
 unfold z7d
 rw[if_pos ⟨rfl,ho⟩]
theorem z4b (rel:Rel G I h w) (o:Nat) (v:Value):I w.heap.size o≠some v:=fun hv=>by
 have:=World.block_lt_of_cell? w _ (rel.imm _ o v hv)
 simp at this
theorem x7n {t:TypeId} {r:Result Next} (hg:G gen=none) (rel:Rel G I h w) (hr:r=((Instr.makeMap t none).bind fun v=>Sem.pure (.value v)).run P w):
  Step G I h w gen slot r (.mp slot gen) (h.set slot (.map gen [])):=by
 have hx:r= .ok (.value (.map (some w.heap.size))) (w.alloc (.map #[] 0)):=by
  rw[hr]
  rfl
 refine Step.make (i:=⟨slot,w.heap.size,0,0,0,0,false⟩) (I':=I) hg rfl rel (fun i o b hi hb=>⟨i,o,hi,hb⟩) (.inl (Nat.le_refl _)) (fun j o hj ho=> ?_) (ILe.refl _)
  (fun b x _ hx=>z3f w _ hx) (fun _ _ _ _ hv=>hv) (fun o v hv=>absurd hv (z4b rel o v)) ?_ ?_ rfl rfl rfl (by rw[z6s];omega) hx ?_
 ·have:=q0a (rel.obj j o hj) ho
  simp at this
 ·exact⟨_, #[],0,Ghost.put_same,rfl,z7o w _,rfl⟩
 ·intro b hb
  simp[own] at hb
  exact hb.symm
 ·simp only[VR]
  exact⟨_,Ghost.put_same,rfl,rfl⟩
theorem x1v {t e:TypeId} {sz by_:Nat} {z:AV} {kl kc:IntKind} {l c:Int} {r:Result Next} (hg:G gen=none) (rel:Rel G I h w) (hu:P.underlying t=some (.slice e)) (hs:sizeP P e=some sz) (hz:zeroP P e=some z) (hb:bytesP P e=some by_)
  (h0:sz≠0) (hzl:z.cells.length=sz) (hd:z.def? =true) (hl:0≤l) (hlc:l≤c) (hroom:c * (by_ + 1)≤z1c) (hr:r=((Instr.makeSlice t (.int kl l) (.int kc c)).bind fun v=>Sem.pure (.value v)).run P w):
  Step G I h w gen slot r (.ob slot gen 0 l.toNat) (h.set slot (.blk gen (List.replicate c.toNat z) true false 0)):=by
 obtain⟨ti,zv,hi,hzv,hvz⟩:=z9m (G:=G) (I:=I) hz
 have hsz:ti.size=sz:=by simpa [sizeP,hi] using hs
 have hby:ti.bytes=by_:=by simpa [bytesP,hi] using hb
 have hza:=ArrR.of_val hd hvz
 have hc0:0≤c:=by omega
 have hrb:(z1c:Int)=70368744177664:=by decide
 rw[hrb] at hroom
 have hbc:(by_:Int) * c≤70368744177664∧c≤70368744177664:=by
  have h1:c * (by_ + 1)=(by_:Int) * c + c:=by rw[Int.mul_add,Int.mul_one,Int.mul_comm]
  rw[h1] at hroom
  have h2:0≤(by_:Int) * c:=Int.mul_nonneg (by omega) hc0
  omega
 have hrun:=run_make (P:=P) w t e ti zv hu hi hzv kl kc l c hl hlc (by rw[hby];omega) (by omega)
 have hx:r= .ok (.value (.slice (some ⟨w.heap.size,0,none⟩) l.toNat c.toNat)) (w.alloc (.cells (madeCells zv.cells (c.toNat * ti.size)) e)):=by
  rw[hr]
  have hbind:∀ (x:Sem Value) (f:Value→Sem Next),(x.bind f).run P w=(x.run P w).andThen fun v w'=>(f v).run P w':=fun x f=>Sem.run_bind (P:=P) w x f
  rw[hbind,hrun]
  rfl
 have hrow:=q8t (n:=c.toNat) hza
 have hzc:zv.cells.size=sz:=by rw[←hza.1];exact hzl
 have hmade:madeCells zv.cells (c.toNat * ti.size)=(Array.range (c.toNat * zv.cells.size)).map fun i=>zv.cells[i % zv.cells.size]! :=by
  rw[hsz,←hzc]
  rfl
 refine Step.make (i:=⟨slot,w.heap.size,sz,c.toNat,0,0,false⟩) (I':=I) hg rfl rel (fun i o b hi hb=>⟨i,o,hi,hb⟩) (.inl (Nat.le_refl _)) (fun j o hj ho=> ?_) (ILe.refl _)
  (fun b x _ hx=>z3f w _ hx) (fun _ _ _ _ hv=>hv) (fun o v hv=>absurd hv (z4b rel o v)) ?_ ?_ rfl rfl rfl (by rw[z6s];omega) hx ?_
 ·have:=q0a (rel.obj j o hj) ho
  simp at this
 ·refine⟨_,_,e,Ghost.put_same,rfl,z7o w _, ?_,by simp;omega,by simp,fun _=>by simp,⟨by omega,fun _=>rfl⟩, ?_,fun o v hv=>absurd hv (z4b rel o v)⟩
  ·rw[size_madeCells,hsz]
  ·rw[hmade]
   have:=hrow.2.mono (Ghost.put_le ⟨slot,w.heap.size,sz,c.toNat,0,0,false⟩ hg) (ILe.refl I)
   rw[hzc] at this⊢
   exact this
 ·intro b hb
  simp[own] at hb
  exact hb.symm
 ·simp only[VR]
  exact⟨_,_,_,Ghost.put_same,rfl,rfl,by omega,by simp, .inr (by simp)⟩
end
end Go.Proofs.YtdfepmffiampgaaGreatDoor.Am
