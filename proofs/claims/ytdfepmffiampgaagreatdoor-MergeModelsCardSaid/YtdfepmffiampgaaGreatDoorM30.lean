/- Walking: magnitudes are multiplied Walking: canonical integers are read Walking: integers are multiplied Walking: integers are divided Walking: numbers are generated Walking: numbers are generated Wal -/
import Derived.Test.YtdfepmffiampgaaGreatDoorM29
set_option linter.all false
namespace Go.Proofs.YtdfepmffiampgaaGreatDoor.Am
open Go
set_option maxRecDepth 100000
theorem k8r {n:Nat}:List.replicate n (AV.int .i64 0)=(List.replicate n 0).map nat:=by simp[nat]
theorem x5j {a b:Nat} (hlen:(dec a).length≤4000000) (hlenb:(dec b).length≤4000000):Pure Gam 253 [.str (dec a), .str (dec b)] (.str (dec (a * b))):=by
 refine Pure.of rfl u3i rfl rfl rfl rfl rfl fun D B clk T hB hT=> ?_
 have hda:=z1u a
 have hdc:=z1u b
 have hna:=List.length_pos_iff.2 (z8y a)
 have hwa:=z2l a
 have hwb:=z2l b
 generalize hA:dec a=A at *
 generalize hC:dec b=C at *
 have en:IntKind.i64.wrap ((A.length:Int) + (C.length:Int))=((A.length + C.length:Nat):Int):=by rw[z0f (by omega) (by omega)];omega
 simp only[go_sem,y1v,hB,en,x0j (z:= .int .i64 0) (n:=A.length + C.length) (b:=8) rfl (by omega),k8r]
 generalize hn:A.length + C.length=n
 refine z1q (fun m q=>∃ (i:Nat) (out:List Nat) (g1:Nat) (o2:AObj),i≤A.length∧m=A.length - i∧out.length=n∧(∀ x∈out,x≤100 * (4000000 * i))∧x3m out=z1v (A.take i) * 10 ^ (A.length - i) * b∧q.ts 0= .str A∧q.ts 1= .str C∧q.ts 5= .ob (B + 0) g1 0 n∧q.ts 6= .int .i64 (i:Int)∧q.h=D++[.blk g1 (out.map nat) true false 0,o2]) A.length ?_ ?_
 ·refine⟨0,List.replicate n 0,_,_,by omega,rfl,by simp,by simp,by simp[k3b,z1v],rfl,rfl,rfl,rfl,rfl⟩
 rintro m ⟨ts,h,clk⟩ P ⟨i,out,g1,o2,hi,rfl,hl,hb,hw,h0,h1,h5,h6,rfl⟩ hnx he hr
 dsimp only at h0 h1 h5 h6
 by_cases hlt:i < A.length
 ·have e1:decide ((i:Int) < (A.length:Int))=true:=by rw[decide_eq_true_iff];omega
  have ei:IntKind.i64.wrap ((i:Int) + 1)=((i + 1:Nat):Int):=z0f (by omega) (by omega)
  simp only[go_sem,h0,h1,h5,h6,j4r,e1]
  refine k8q (i:=i) (A:=A) (C:=C) hB hl hn.symm hlen hlenb hlt hda hdc hb (by simp[z0c,h0]) (by simp[z0c,h1]) (by simp[z0c,h5]) (by simp[z0c,h6]) rfl ?_
  intro out' ts2 clk2 hl' hb' hw' q0 q1 q5 q6
  simp only[go_sem,q0,q1,q5,q6,ei]
  refine hnx (A.length - (i + 1)) _ (by omega) ⟨i + 1,out',g1,o2,hlt,rfl,hl',hb', ?_,q0,q1,q5,rfl,rfl⟩
  rw[hw',hw,x9f hlt,hwb,Nat.add_mul]
 ·have hiA:i=A.length:=by omega
  have e1:decide ((i:Int) < (A.length:Int))=false:=by rw[decide_eq_false_iff_not];omega
  rw[hiA,List.take_length,hwa,Nat.sub_self,Nat.pow_zero,Nat.mul_one] at hw
  have hlt10:a * b < 10 ^ n:=by
   have h1:=z6l hda
   have h2:=z6l hdc
   rw[hwa] at h1
   rw[hwb] at h2
   rw[←hn,Nat.pow_add]
   rcases Nat.eq_zero_or_pos b with rfl | hbp
   ·simp;exact Nat.mul_pos (Nat.pos_of_ne_zero (by simp)) (Nat.pos_of_ne_zero (by simp))
   ·exact Nat.lt_of_lt_of_le (Nat.mul_lt_mul_of_pos_right h1 hbp) (Nat.mul_le_mul_left _ (Nat.le_of_lt h2))
  have em:IntKind.i64.wrap ((n:Int) - 1)=(n:Int) - 1:=z0f (by omega) (by omega)
  simp only[go_sem,h0,h1,h5,h6,j4r,e1]
  refine he _ _ ?_
  simp only[go_sem,h0,h1,h5,h6,hB,x0j (z:= .int .u8 0) (n:=n) (b:=1) rfl (by omega),em]
  refine k8p (out:=out) hB hl (by omega) (by omega) (fun x hx=>by have:=hb x hx;omega) (by rw[hw];exact hlt10) (by simp[z0c,h5]) rfl rfl rfl ?_
  intro suf ts2 clk2 hsl hsd hsw q8
  have hof:∀ g2,v3x (D++[.blk g1 (out.map nat) true false 0, .blk g2 (bytes suf) true false 0]) (.ob (B + 1) g2 0 n)=some (.str suf,D++[.blk g1 (out.map nat) true false 0, .blk g2 (bytes suf) true false 0]):=fun g2=>by
   have hs:=q1g (B:=B) (D:=D) (L:=[.blk g1 (out.map nat) true false 0, .blk g2 (bytes suf) true false 0]) (k:=1) (g:=g2) (len:=n) hB rfl (by rw[q5m,hsl])
   simp only[v3x,hs,Option.bind_some]
   rw[z8m fun c hc=>by have:=hsd.2 c hc;omega]
   rfl
  simp only[go_sem,q8,hof]
  rw[z0a (q2g hsd),hsw,hw]
  simp only[go_sem,]
  rw[z9s]
  exact hT _
theorem x9g {B clk:Nat} {D L:List AObj} {s:List Nat} {g4:Nat} {v0:AV} {ts:Tmps} {ks:List Kf} {Q:Post} (hd:∀ c∈s,48≤c∧c≤57) (hl:s.length≤20000000) (h0:ts 0=v0) (h4:ts 4= .ptr (B + 1) g4 0 0) (h5:ts 5= .str s) (h6:ts 6= .int .i64 0) {g2:Nat} (h2:ts 2= .ptr (B + 0) g2 0 0)
  (hQ:∀ (ts':Tmps) (clk':Nat),ts' 0=v0→ts' 2= .ptr (B + 0) g2 0 0→ts' 4= .ptr (B + 1) g4 0 0→ts' 5= .str s→K Gam B (.exit 0) ks ⟨ts',D++L,clk'⟩ Q):K Gam B (.loop q7p) ks ⟨ts,D++L,clk⟩ Q:=by
 refine z1q (fun m q=>∃ j:Nat,j≤s.length∧m=s.length - j∧q.ts 0=v0∧q.ts 2= .ptr (B + 0) g2 0 0∧q.ts 4= .ptr (B + 1) g4 0 0∧q.ts 5= .str s∧q.ts 6= .int .i64 (j:Int)∧q.h=D++L) s.length ⟨0,by omega,rfl,h0,h2,h4,h5,h6,rfl⟩ ?_
 clear h0 h2 h4 h5 h6
 rintro m ⟨ts,h,clk⟩ P ⟨j,hj,rfl,h0,h2,h4,h5,h6,rfl⟩ hn he hr
 dsimp only at h0 h2 h4 h5 h6
 by_cases hlt:j < s.length
 ·have e1:decide ((j:Int) < (s.length:Int))=true:=by rw[decide_eq_true_iff];omega
  have hc:=hd s[j] (List.getElem_mem hlt)
  have e2:decide ((s[j]:Int)=47)=false:=by rw[decide_eq_false_iff_not];omega
  have e4:IntKind.i64.wrap ((j:Int) + 1)=((j + 1:Nat):Int):=z0f (by omega) (by omega)
  simp only[go_sem,h0,h2,h4,h5,h6,q7p,e1,q2f hlt,e2,e4]
  exact hn (s.length - (j + 1)) _ (by omega) ⟨j + 1,hlt,rfl,h0,h2,h4,h5,rfl,rfl⟩
 ·have e1:decide ((j:Int) < (s.length:Int))=false:=by rw[decide_eq_false_iff_not];omega
  simp only[go_sem,h0,h2,h4,h5,h6,q7p,e1]
  refine he _ _ ?_
  exact hQ _ _ (by simp[z0c,h0]) (by simp[z0c,h2]) (by simp[z0c,h4]) (by simp[z0c,h5])
theorem z4g:dec 1=[49]:=z9r (by omega)
theorem k8s (z:Int):z3k z=z5c (decide (z < 0)) z.natAbs 1:=by
 unfold z3k z5c
 by_cases h:z < 0 <;> simp[h]
theorem q4g {z:Int} (hl:(dec z.natAbs).length≤10000000):Pure Gam 160 [.str (z3k z)] (.tup [x1s (decide (z < 0)) z.natAbs 1, .bool true]):=by
 have hdn:=z1u z.natAbs
 have hdne:=z8y z.natAbs
 have hdig:q7q (dec z.natAbs):=⟨hdne,hdn⟩
 have hp1:Pure Gam 197 [.str [49]] (.bool true):=q6k ⟨by simp,by simp⟩ (by simp)
 have hp2:Pure Gam 198 [.str [49]] (.str [49]):=by have:=q2g (s:=[49]) ⟨by simp,by simp⟩;rwa [show z1v [49]=1 from rfl,z4g] at this
 have hp3:Pure Gam 198 [.str (dec z.natAbs)] (.str (dec z.natAbs)):=by have:=q2g hdig;rwa [z2l] at this
 have hp4:∀ neg:Bool,(neg=true→z.natAbs≠0)→Pure Gam 216 [.bool neg, .str (dec z.natAbs), .str [49]] (x1s neg z.natAbs 1):=fun neg hneg=>by
  have:=x5h (neg:=neg) (a:=z.natAbs) (b:=1) (by omega) hl (by rw[z4g];simp)
  rw[z4g,Nat.gcd_one_right,Nat.div_one,Nat.div_one] at this
  cases neg
  ·exact this
  ·have h0:=hneg rfl
   simpa [h0] using this
 have hp5:∀ neg:Bool,Pure Gam 217 [x1s neg z.natAbs 1] (.str (z5c neg z.natAbs 1)):=fun neg=>x5i hl (by rw[z4g];simp)
 refine Pure.of rfl y1r rfl rfl rfl rfl rfl fun D B clk T hB hT=> ?_
 by_cases hz:z < 0
 ·have he:z3k z=45::dec z.natAbs:=by rw[z3k,if_pos hz]
  have hdz:decide (z < 0)=true:=by simp[hz]
  rw[he]
  simp only[go_sem,k2z,hB,z0y,Bool.not_false,z6h,Int.cast_ofNat_Int,x0i,decide_true,decide_false,Int.reduceEq]
  refine⟨by simp[z0v,apart,z0h,z0s,z0w,AOp.isCall,hB], ?_⟩
  refine x9g (v0:= .str (45::dec z.natAbs)) hdn (by omega) rfl rfl rfl rfl rfl ?_
  intro ts2 clk2 q0 q2 q4 q5
  have e1:decide (([49]:List Nat)=[48])=false:=rfl
  have e2:decide (dec z.natAbs=dec z.natAbs)=true:=by simp
  have e3:decide (z5c true z.natAbs 1=45::dec z.natAbs)=true:=by simp[z5c]
  simp only[go_sem,q0,q2,q4,q5,hB,z0y,z0a (q6k hdig (by omega)),z0a hp1,z0a hp2,z0a hp3,z0a (hp4 true (by omega)),z0a (hp5 true),e1,e2,e3,Bool.not_true,Bool.not_false,decide_true,decide_false]
  refine⟨by simp[z0v,apart,z0h,z0s,z0w,AOp.isCall,hB], ?_⟩
  rw[z0j rfl rfl]
  rw[hdz] at hT
  have:=hT
  rw[x1s,z4g] at this
  exact this _
 ·have he:z3k z=dec z.natAbs:=by rw[z3k,if_neg hz]
  have hdz:decide (z < 0)=false:=by simp[hz]
  rw[he]
  obtain⟨c,t,hct⟩:=List.exists_cons_of_ne_nil hdne
  have hc:=hdn c (by rw[hct];exact List.mem_cons_self)
  have e0:decide (dec z.natAbs=[])=false:=by simp[hdne]
  have e00:∀ h k,q5i h (.str (dec z.natAbs)) (.int k 0)=some (.int .u8 (c:Int),h):=fun h k=>by rw[hct];exact z6h
  have ec:decide ((c:Int)=45)=false:=by rw[decide_eq_false_iff_not];omega
  simp only[go_sem,k2z,hB,z0y,Bool.not_false,e0,e00,ec,Int.cast_ofNat_Int,decide_true,decide_false,Int.reduceEq]
  refine x9g (v0:= .str (dec z.natAbs)) hdn (by omega) rfl rfl rfl rfl rfl ?_
  intro ts2 clk2 q0 q2 q4 q5
  have e1:decide (([49]:List Nat)=[48])=false:=rfl
  have e2:decide (dec z.natAbs=dec z.natAbs)=true:=by simp
  have e3:decide (z5c false z.natAbs 1=dec z.natAbs)=true:=by simp[z5c]
  simp only[go_sem,q0,q2,q4,q5,hB,z0y,z0a (q6k hdig (by omega)),z0a hp1,z0a hp2,z0a hp3,z0a (hp4 false (by simp)),z0a (hp5 false),e1,e2,e3,Bool.not_true,Bool.not_false,decide_true,decide_false]
  refine⟨by simp[z0v,apart,z0h,z0s,z0w,AOp.isCall,hB], ?_⟩
  rw[z0j rfl rfl]
  rw[hdz] at hT
  have:=hT
  rw[x1s,z4g] at this
  exact this _
theorem k8t {x y:Int}:z5c ((!(decide (x < 0)==decide (y < 0))) && !decide (x.natAbs * y.natAbs=0)) (x.natAbs * y.natAbs) 1=z3k (x * y):=by
 rw[k8s,Int.natAbs_mul]
 congr 1
 rw[Bool.eq_iff_iff]
 simp only[Bool.and_eq_true,Bool.not_eq_true',decide_eq_false_iff_not,decide_eq_true_iff,beq_eq_false_iff_ne,ne_eq,decide_eq_decide]
 rcases Int.lt_trichotomy x 0 with hx | hx | hx <;> rcases Int.lt_trichotomy y 0 with hy | hy | hy
 ·have:=Int.mul_pos_of_neg_of_neg hx hy
  simp[hx,hy];omega
 ·subst hy;simp
 ·have:=Int.mul_neg_of_neg_of_pos hx hy
  have h2:¬ y < 0:=by omega
  simp[hx,h2,this];exact Nat.ne_of_gt (Nat.mul_pos (by omega) (by omega))
 ·subst hx;simp
 ·subst hx;simp
 ·subst hx;simp
 ·have:=Int.mul_neg_of_pos_of_neg hx hy
  have h2:¬ x < 0:=by omega
  simp[hy,h2,this];exact Nat.ne_of_gt (Nat.mul_pos (by omega) (by omega))
 ·subst hy;simp
 ·have:=Int.mul_pos hx hy
  have h2:¬ x < 0:=by omega
  have h3:¬ y < 0:=by omega
  simp[h2,h3];omega
theorem w1h {x y:Int} (hx:(dec x.natAbs).length≤4000000) (hy:(dec y.natAbs).length≤4000000) (hxy:(dec (x.natAbs * y.natAbs)).length≤10000000):Pure Gam 273 [.str (z3k x), .str (z3k y)] (.str (z3k (x * y))):=by
 refine Pure.of rfl u3b rfl rfl rfl rfl rfl fun D B clk T hB hT=> ?_
 have hp1:Pure Gam 253 [.str [49], .str [49]] (.str [49]):=by
  have:=x5j (a:=1) (b:=1) (by rw[z4g];simp) (by rw[z4g];simp)
  rwa [z4g] at this
 have hp2:∀ neg:Bool,Pure Gam 216 [.bool neg, .str (dec (x.natAbs * y.natAbs)), .str [49]] (x1s (neg && !decide (x.natAbs * y.natAbs=0)) (x.natAbs * y.natAbs) 1):=fun neg=>by
  have:=x5h (neg:=neg) (a:=x.natAbs * y.natAbs) (b:=1) (by omega) hxy (by rw[z4g];simp)
  rwa [z4g,Nat.gcd_one_right,Nat.div_one,Nat.div_one] at this
 have hp3:∀ neg:Bool,Pure Gam 217 [x1s neg (x.natAbs * y.natAbs) 1] (.str (z5c neg (x.natAbs * y.natAbs) 1)):=fun neg=>x5i hxy (by rw[z4g];simp)
 simp only[go_sem,y1p,hB]
 rw[z0a (q4g (by omega))]
 simp only[go_sem,hB,x1s,z4g]
 rw[z0a (q4g (by omega))]
 simp only[go_sem,hB,x1s,z4g,Bool.not_true,Bool.not_false,z0y,z0a (x5j (a:=x.natAbs) (b:=y.natAbs) (by omega) (by omega)),z0a hp1]
 rw[z0a (hp2 _)]
 simp only[go_sem,]
 rw[z0a (hp3 _)]
 simp only[go_sem,]
 refine⟨by simp[z0v,apart,z0h,z0s,z0w,AOp.isCall,hB], ?_⟩
 rw[z9s,k8t]
 exact hT _
theorem w1i {x:Int} {d:Nat} (hx:(dec x.natAbs).length≤4000000) (hd:1≤d) (hd4:d≤4):Pure Gam 272 [.str (z3k x), .str (z3k (d:Int))] (.str (z5c (decide (x < 0) && !decide (x.natAbs / Nat.gcd x.natAbs d=0)) (x.natAbs / Nat.gcd x.natAbs d) (d / Nat.gcd x.natAbs d))):=by
 refine Pure.of rfl u3c rfl rfl rfl rfl rfl fun D B clk T hB hT=> ?_
 have hdl:(dec d).length≤1:=z8z (by omega) (by omega)
 have hp1:Pure Gam 253 [.str (dec x.natAbs), .str [49]] (.str (dec x.natAbs)):=by
  have:=x5j (a:=x.natAbs) (b:=1) (by omega) (by rw[z4g];simp)
  rwa [z4g,Nat.mul_one] at this
 have hp2:Pure Gam 253 [.str [49], .str (dec d)] (.str (dec d)):=by
  have:=x5j (a:=1) (b:=d) (by rw[z4g];simp) (by omega)
  rwa [z4g,Nat.one_mul] at this
 have hdn:((d:Int)).natAbs=d:=Int.natAbs_natCast d
 have hdz:decide ((d:Int) < 0)=false:=by rw[decide_eq_false_iff_not];omega
 have hd0:decide (dec d=[48])=false:=by rw[z4d,decide_eq_false_iff_not];omega
 have hr:=q4g (z:=(d:Int)) (by rw[hdn];omega)
 rw[hdn,hdz] at hr
 have hle1:(dec (x.natAbs / Nat.gcd x.natAbs d)).length≤10000000:=Nat.le_trans (q0k (Nat.div_le_self _ _)) (by omega)
 have hle2:(dec (d / Nat.gcd x.natAbs d)).length≤10000000:=Nat.le_trans (q0k (Nat.div_le_self _ _)) (by omega)
 simp only[go_sem,y1q,hB]
 rw[z0a (q4g (by omega))]
 simp only[go_sem,hB,x1s,z4g]
 rw[z0a hr]
 simp only[go_sem,hB,x1s,z4g,Bool.not_true,Bool.not_false,hd0,z0y,z0a hp1,z0a hp2]
 rw[z0a (x5h (by omega) (by omega) (by omega))]
 simp only[go_sem,]
 rw[z0a (x5i hle1 hle2)]
 simp only[go_sem,]
 refine⟨by simp[z0v,apart,z0h,z0s,z0w,AOp.isCall,hB], ?_⟩
 rw[z9s]
 have:=hT
 rw[Bool.not_not]
 exact this _
section
variable {l:List Int}
def g3e (v:AV):Prop:=∃ z:Int,v= .str (z3k z)∧z.natAbs < 10 ^ 26
theorem v4d (hl:q6i l):GenOk l 257 [] g3e:=by
 refine GenOk.of rfl u2r rfl rfl rfl rfl rfl fun D B p g i clk T hB hs hD hi hR=> ?_
 simp only[go_sem,y0v,hB]
 refine z0t (z3i hl (by decide) (by decide)) hB hs hD hi ?_
 clear hB hD hi
 rintro v D i ⟨r,rfl,hr1,hr2⟩ hB hD hi
 obtain h6 | h7 | h8:r=6∨r=7∨(r≠6∧r≠7):=by omega
 ·subst h6
  simp only[go_sem,Int.reduceEq,decide_true,decide_false]
  refine z0t (z3i hl (by decide) (by decide)) hB hs hD hi ?_
  clear hB hD hi
  rintro v D i ⟨r,rfl,hr3,hr4⟩ hB hD hi
  simp only[go_sem,z0f (n:=r - 1000) (by omega) (by omega)]
  rw[z0a (q1r (by omega) (by omega))]
  simp only[go_sem,]
  rw[z9s]
  exact hR _ _ i (by rw[z1a hB hs];exact hD) hi ⟨_,rfl,by omega⟩
 ·subst h7
  simp only[go_sem,Int.reduceEq,decide_true,decide_false]
  refine z0t (z3i hl (by decide) (by decide)) hB hs hD hi ?_
  clear hB hD hi
  rintro v D i ⟨x,rfl,hr3,hr4⟩ hB hD hi
  simp only[go_sem,z0f (n:=x - 549755813888) (by omega) (by omega)]
  rw[z0a (q1r (by omega) (by omega))]
  simp only[go_sem,]
  refine z0t (z3i hl (by decide) (by decide)) hB hs hD hi ?_
  clear hB hD hi
  rintro v D i ⟨y,rfl,hr5,hr6⟩ hB hD hi
  simp only[go_sem,]
  rw[z0a (q1r (by omega) (by omega))]
  have hx:(x - 549755813888).natAbs < 10 ^ 13:=by omega
  have hy:y.natAbs < 10 ^ 13:=by omega
  have hxy:(x - 549755813888).natAbs * y.natAbs < 10 ^ 26:=Nat.lt_of_le_of_lt (Nat.mul_le_mul (Nat.le_sub_one_of_lt hx) (Nat.le_sub_one_of_lt hy)) (by decide)
  simp only[go_sem,]
  rw[z0a (w1h (Nat.le_trans (z8z (k:=13) (by omega) hx) (by omega)) (Nat.le_trans (z8z (k:=13) (by omega) hy) (by omega)) (Nat.le_trans (z8z (k:=26) (by omega) hxy) (by omega)))]
  simp only[go_sem,]
  rw[z9s]
  exact hR _ _ i (by rw[z1a hB hs];exact hD) hi ⟨_,rfl,by rw[Int.natAbs_mul];exact hxy⟩
 ·have e6:decide (r=6)=false:=by simp[h8.1]
  have e7:decide (r=7)=false:=by simp[h8.2]
  simp only[go_sem,e6,e7]
  refine z0t (z3i hl (by decide) (by decide)) hB hs hD hi ?_
  clear hB hD hi
  rintro v D i ⟨r,rfl,hr3,hr4⟩ hB hD hi
  simp only[go_sem,z0f (n:=r - 4) (by omega) (by omega)]
  rw[z0a (q1r (by omega) (by omega))]
  simp only[go_sem,]
  rw[z9s]
  exact hR _ _ i (by rw[z1a hB hs];exact hD) hi ⟨_,rfl,by omega⟩
end
section
variable {l:List Int}
theorem k8u {z:Int} {d:Nat} (hz:z.natAbs < 10 ^ 26) (hd:1≤d) (hd4:d≤4):RatS (z5c (decide (z < 0) && !decide (z.natAbs / Nat.gcd z.natAbs d=0)) (z.natAbs / Nat.gcd z.natAbs d) (d / Nat.gcd z.natAbs d)):=by
 have hg:0 < Nat.gcd z.natAbs d:=Nat.gcd_pos_of_pos_right _ hd
 have hcop:Nat.gcd (z.natAbs / Nat.gcd z.natAbs d) (d / Nat.gcd z.natAbs d)=1:=Nat.gcd_div_gcd_div_gcd_of_pos_right hd
 have h1:z.natAbs / Nat.gcd z.natAbs d≤z.natAbs:=Nat.div_le_self _ _
 have h2:d / Nat.gcd z.natAbs d≤d:=Nat.div_le_self _ _
 have h3:0 < d / Nat.gcd z.natAbs d:=Nat.div_pos (Nat.le_of_dvd hd (Nat.gcd_dvd_right _ _)) hg
 generalize z.natAbs / Nat.gcd z.natAbs d=n at *
 generalize d / Nat.gcd z.natAbs d=e at *
 obtain⟨w,hw,hwn⟩:∃ w:Int,z3k w=(if (decide (z < 0) && !decide (n=0))=true then [45] else [])++dec n∧w.natAbs=n:=by
  by_cases hneg:(decide (z < 0) && !decide (n=0))=true
  ·simp only[Bool.and_eq_true,decide_eq_true_iff,Bool.not_eq_true',decide_eq_false_iff_not] at hneg
   refine⟨-(n:Int), ?_,by omega⟩
   rw[z3k,if_pos (by omega),show (-(n:Int)).natAbs=n by omega]
   simp[hneg.1,hneg.2]
  ·refine⟨(n:Int), ?_,by omega⟩
   rw[if_neg hneg,z3k,if_neg (by omega),Int.natAbs_natCast]
   rfl
 unfold z5c
 rw[←hw]
 by_cases he:e=1
 ·rw[if_pos he,List.append_nil]
  exact .inl (q6j (by omega))
 ·rw[if_neg he]
  exact .inr ⟨w,e,rfl,by omega,by omega,by omega,by rw[hwn];exact hcop⟩
theorem y2v (hl:q6i l):GenOk l 258 [] fun v=>∃ a,v= .str a∧RatS a:=by
 refine GenOk.of rfl u2s rfl rfl rfl rfl rfl fun D B p g i clk T hB hs hD hi hR=> ?_
 simp only[go_sem,y0w,hB]
 refine z0t (v4d hl) hB hs hD hi ?_
 clear hB hD hi
 rintro v D i ⟨z,rfl,hz⟩ hB hD hi
 simp only[go_sem,]
 refine z0t (z3i hl (by decide) (by decide)) hB hs hD hi ?_
 clear hB hD hi
 rintro v D i ⟨r,rfl,hr3,hr4⟩ hB hD hi
 obtain⟨k,rfl⟩:∃ k:Nat,r=k:=⟨r.toNat,by omega⟩
 have e1:IntKind.i64.wrap (1 + (k:Int))=((1 + k:Nat):Int):=by rw[z0f (by omega) (by omega)];omega
 simp only[go_sem,e1]
 rw[z0a (q1r (by omega) (by omega))]
 simp only[go_sem,]
 rw[z0a (w1i (Nat.le_trans (z8z (k:=26) (by omega) hz) (by omega)) (by omega) (by omega))]
 simp only[go_sem,]
 rw[z9s]
 exact hR _ _ i (by rw[z1a hB hs];exact hD) hi ⟨_,rfl,k8u hz (by omega) (by omega)⟩
theorem v4e (hl:q6i l):x1x l:=by
 intro s hs23
 refine GenOk.of rfl u2q rfl rfl rfl rfl rfl fun D B p g i clk T hB hs hD hi hR=> ?_
 rcases hs23 with rfl | rfl
 ·simp only[go_sem,v9x,hB,nat,Int.reduceEq,decide_true,decide_false]
  refine z0t (v4d hl) hB hs hD hi ?_
  clear hB hD hi
  rintro v D i ⟨z,rfl,hz⟩ hB hD hi
  simp only[go_sem,]
  rw[z9s]
  exact hR _ _ i (by rw[z1a hB hs];exact hD) hi ⟨_,rfl, .inl ⟨rfl,q6j (by omega)⟩⟩
 ·simp only[go_sem,v9x,hB,nat,Int.reduceEq,decide_true,decide_false]
  refine z0t (y2v hl) hB hs hD hi ?_
  clear hB hD hi
  rintro v D i ⟨a,rfl,ha⟩ hB hD hi
  simp only[go_sem,]
  rw[z9s]
  exact hR _ _ i (by rw[z1a hB hs];exact hD) hi ⟨_,rfl, .inr ⟨rfl,ha⟩⟩
end
theorem j5b {h:List AObj} {c:Nat} {s:List Nat} {k:IntKind}:slV h none (.str (c::s)) none (some (.int k 1)) none=some (.str [c],h):=by
 simp[slV,z3c,z5l]
theorem j1z {t:List Nat}:Pure Gam 280 [.str (45::t), .str [45]] (.bool true):=by
 refine Pure.of rfl y2c rfl rfl rfl rfl rfl fun D B clk T hB hT=> ?_
 have e1:decide ((1:Int)≤((t.length + 1:Nat):Int))=true:=by rw[decide_eq_true_iff];omega
 simp only[go_sem,w0w,Nat.zero_add,Int.cast_ofNat_Int,e1,j5b,decide_true]
 rw[z0d]
 exact hT _
theorem j2a {c:Nat} {t:List Nat} (hc:c≠45):Pure Gam 280 [.str (c::t), .str [45]] (.bool false):=by
 refine Pure.of rfl y2c rfl rfl rfl rfl rfl fun D B clk T hB hT=> ?_
 have e1:decide ((1:Int)≤((t.length + 1:Nat):Int))=true:=by rw[decide_eq_true_iff];omega
 have e2:decide ([c]=[45])=false:=by simp[hc]
 simp only[go_sem,w0w,Nat.zero_add,Int.cast_ofNat_Int,e1,j5b,e2]
 rw[z0d]
 exact hT _
theorem x0k {t:List Nat}:Pure Gam 232 [.str (45::t), .str [45]] (.tup [.str t, .bool true]):=by
 have hp:Pure Gam 264 [.str (45::t), .str [45]] (.tup [.str t, .bool true]):=by
  refine Pure.of rfl y2b rfl rfl rfl rfl rfl fun D B clk T hB hT=> ?_
  simp only[go_sem,w0v]
  rw[z0a j1z]
  simp only[go_sem,Bool.not_true,Nat.zero_add,Int.cast_ofNat_Int,x0i]
  rw[z0j rfl rfl]
  exact hT _
 refine Pure.of rfl y2a rfl rfl rfl rfl rfl fun D B clk T hB hT=> ?_
 simp only[go_sem,w0u]
 rw[z0a hp]
 simp only[go_sem,]
 rw[z0j rfl rfl]
 exact hT _
theorem x0l {c:Nat} {t:List Nat} (hc:c≠45):Pure Gam 232 [.str (c::t), .str [45]] (.tup [.str (c::t), .bool false]):=by
 have hp:Pure Gam 264 [.str (c::t), .str [45]] (.tup [.str (c::t), .bool false]):=by
  refine Pure.of rfl y2b rfl rfl rfl rfl rfl fun D B clk T hB hT=> ?_
  simp only[go_sem,w0v]
  rw[z0a (j2a hc)]
  simp only[go_sem,Bool.not_false]
  rw[z0j rfl rfl]
  exact hT _
 refine Pure.of rfl y2a rfl rfl rfl rfl rfl fun D B clk T hB hT=> ?_
 simp only[go_sem,w0u]
 rw[z0a hp]
 simp only[go_sem,]
 rw[z0j rfl rfl]
 exact hT _
section
open Sh
set_option maxHeartbeats 0
noncomputable def y2w:AFun:=(fun (a:AFun) (_:Gam.fn 106=some a)=>a) _ (by conv=>lhs;reduce;simp only[Int.reduceOfNat,Int.reduceNegSucc])
theorem u4b:Gam.fn 106=some y2w:=by kernel_rfl
noncomputable def y2x:AFun:=(fun (a:AFun) (_:Gam.fn 107=some a)=>a) _ (by conv=>lhs;reduce;simp only[Int.reduceOfNat,Int.reduceNegSucc])
theorem u4c:Gam.fn 107=some y2x:=by kernel_rfl
noncomputable def y2y:AFun:=(fun (a:AFun) (_:Gam.fn 109=some a)=>a) _ (by conv=>lhs;reduce;simp only[Int.reduceOfNat,Int.reduceNegSucc])
theorem u4d:Gam.fn 109=some y2y:=by kernel_rfl
noncomputable def y2z:AFun:=(fun (a:AFun) (_:Gam.fn 174=some a)=>a) _ (by conv=>lhs;reduce;simp only[Int.reduceOfNat,Int.reduceNegSucc])
theorem u4e:Gam.fn 174=some y2z:=by kernel_rfl
noncomputable def u8q:AFun:=(fun (a:AFun) (_:Gam.fn 127=some a)=>a) _ (by conv=>lhs;reduce;simp only[Int.reduceOfNat,Int.reduceNegSucc])
noncomputable def x3n:ACode:=(fun (a:ACode) (_:fl [] (lp u8q 0)=a)=>a) _ (by conv=>lhs;reduce;simp only[Int.reduceOfNat,Int.reduceNegSucc])
attribute [local irreducible] x3n
noncomputable def y3a:AFun:=(fun (a:AFun) (_:flF [x3n] u8q=a)=>a) _ (by conv=>lhs;reduce;simp only[Int.reduceOfNat,Int.reduceNegSucc])
theorem u4f:Gam.fn 127=some y3a:=by kernel_rfl
noncomputable def u8r:AFun:=(fun (a:AFun) (_:Gam.fn 126=some a)=>a) _ (by conv=>lhs;reduce;simp only[Int.reduceOfNat,Int.reduceNegSucc])
noncomputable def q5p:ACode:=(fun (a:ACode) (_:fl [] (lp u8r 0)=a)=>a) _ (by conv=>lhs;reduce;simp only[Int.reduceOfNat,Int.reduceNegSucc])
attribute [local irreducible] q5p
noncomputable def y3b:AFun:=(fun (a:AFun) (_:flF [q5p] u8r=a)=>a) _ (by conv=>lhs;reduce;simp only[Int.reduceOfNat,Int.reduceNegSucc])
theorem u4g:Gam.fn 126=some y3b:=by kernel_rfl
noncomputable def y3c:AFun:=(fun (a:AFun) (_:Gam.fn 128=some a)=>a) _ (by conv=>lhs;reduce;simp only[Int.reduceOfNat,Int.reduceNegSucc])
theorem u4h:Gam.fn 128=some y3c:=by kernel_rfl
noncomputable def j2b:AFun:=(fun (a:AFun) (_:Gam.fn 123=some a)=>a) _ (by conv=>lhs;reduce;simp only[Int.reduceOfNat,Int.reduceNegSucc])
theorem k3d:Gam.fn 123=some j2b:=by kernel_rfl
noncomputable def x1y:AFun:=(fun (a:AFun) (_:Gam.fn 124=some a)=>a) _ (by conv=>lhs;reduce;simp only[Int.reduceOfNat,Int.reduceNegSucc])
theorem u4i:Gam.fn 124=some x1y:=by kernel_rfl
noncomputable def q2h:AFun:=(fun (a:AFun) (_:Gam.fn 125=some a)=>a) _ (by conv=>lhs;reduce;simp only[Int.reduceOfNat,Int.reduceNegSucc])
theorem u4j:Gam.fn 125=some q2h:=by kernel_rfl
noncomputable def w1j:AFun:=(fun (a:AFun) (_:Gam.fn 185=some a)=>a) _ (by conv=>lhs;reduce;simp only[Int.reduceOfNat,Int.reduceNegSucc])
theorem y3d:Gam.fn 185=some w1j:=by kernel_rfl
noncomputable def y3e:AFun:=(fun (a:AFun) (_:Gam.fn 186=some a)=>a) _ (by conv=>lhs;reduce;simp only[Int.reduceOfNat,Int.reduceNegSucc])
theorem u4k:Gam.fn 186=some y3e:=by kernel_rfl
noncomputable def w1k:AFun:=(fun (a:AFun) (_:Gam.fn 187=some a)=>a) _ (by conv=>lhs;reduce;simp only[Int.reduceOfNat,Int.reduceNegSucc])
theorem u4l:Gam.fn 187=some w1k:=by kernel_rfl
noncomputable def y3f:AFun:=(fun (a:AFun) (_:Gam.fn 188=some a)=>a) _ (by conv=>lhs;reduce;simp only[Int.reduceOfNat,Int.reduceNegSucc])
theorem u4m:Gam.fn 188=some y3f:=by kernel_rfl
noncomputable def y3g:AFun:=(fun (a:AFun) (_:Gam.fn 189=some a)=>a) _ (by conv=>lhs;reduce;simp only[Int.reduceOfNat,Int.reduceNegSucc])
theorem u4n:Gam.fn 189=some y3g:=by kernel_rfl
noncomputable def y3h:AFun:=(fun (a:AFun) (_:Gam.fn 190=some a)=>a) _ (by conv=>lhs;reduce;simp only[Int.reduceOfNat,Int.reduceNegSucc])
theorem u4o:Gam.fn 190=some y3h:=by kernel_rfl
noncomputable def y3i:AFun:=(fun (a:AFun) (_:Gam.fn 234=some a)=>a) _ (by conv=>lhs;reduce;simp only[Int.reduceOfNat,Int.reduceNegSucc])
theorem u4p:Gam.fn 234=some y3i:=by kernel_rfl
noncomputable def y3j:AFun:=(fun (a:AFun) (_:Gam.fn 222=some a)=>a) _ (by conv=>lhs;reduce;simp only[Int.reduceOfNat,Int.reduceNegSucc])
theorem u4q:Gam.fn 222=some y3j:=by kernel_rfl
noncomputable def u8s:AFun:=(fun (a:AFun) (_:Gam.fn 259=some a)=>a) _ (by conv=>lhs;reduce;simp only[Int.reduceOfNat,Int.reduceNegSucc])
noncomputable def x3o:ACode:=(fun (a:ACode) (_:fl [] (lp u8s 0)=a)=>a) _ (by conv=>lhs;reduce;simp only[Int.reduceOfNat,Int.reduceNegSucc])
attribute [local irreducible] x3o
noncomputable def y3k:AFun:=(fun (a:AFun) (_:flF [x3o] u8s=a)=>a) _ (by conv=>lhs;reduce;simp only[Int.reduceOfNat,Int.reduceNegSucc])
theorem u4r:Gam.fn 259=some y3k:=by kernel_rfl
noncomputable def w1l:AFun:=(fun (a:AFun) (_:Gam.fn 191=some a)=>a) _ (by conv=>lhs;reduce;simp only[Int.reduceOfNat,Int.reduceNegSucc])
theorem u4s:Gam.fn 191=some w1l:=by kernel_rfl
end
theorem x0m {s:List Nat} {i:Nat} {h:List AObj} {t:Tip} {k:IntKind} (hi:i < s.length):z1n h 1 (.sl (bytes s) t) (.int k (i:Int))=some (.iptr [.int .u8 (s[i]:Int)] 0,h):=z5p (e:= .int .u8 (s[i]:Int)) (by simp[bytes,hi]) rfl
theorem q6n {n:Nat} (hl:(dec n).length≤1000):Pure Gam 233 [.str (dec n)] (.bool true):=by
 refine Pure.of rfl u3n rfl rfl rfl rfl rfl fun D B clk T hB hT=> ?_
 have hd:=z1u n
 have hb:(dec n).map (fun (b:Nat)=>AV.int .u8 (Int.ofNat b))=bytes (dec n):=rfl
 simp only[go_sem,y2d,hb,q5m]
 refine z1q (fun m q=>∃ j:Nat,j≤(dec n).length∧m=(dec n).length - j∧q.ts 0= .str (dec n)∧q.ts 6= .sl (bytes (dec n)) .no∧q.ts 7= .int .i64 ((dec n).length:Int)∧q.ts 8= .int .i64 (j:Int)∧q.h=D++[]) (dec n).length ⟨0,by omega,rfl,rfl,rfl,rfl,rfl,rfl⟩ ?_
 rintro m ⟨ts,h,clk⟩ P ⟨j,hj,rfl,h0,h6,h7,h8,rfl⟩ hn he hr
 dsimp only at h0 h6 h7 h8
 by_cases hlt:j < (dec n).length
 ·have e1:decide ((j:Int) < ((dec n).length:Int))=true:=by rw[decide_eq_true_iff];omega
  have hc:=hd _ (List.getElem_mem hlt)
  have e2:decide (((dec n)[j]:Int) < 48)=false:=by rw[decide_eq_false_iff_not];omega
  have e3:decide ((57:Int) < ((dec n)[j]:Int))=false:=by rw[decide_eq_false_iff_not];omega
  have e4:IntKind.i64.wrap ((j:Int) + 1)=((j + 1:Nat):Int):=z0f (by omega) (by omega)
  simp only[go_sem,h0,h6,h7,h8,j4t,e1,x0m hlt,e2,e3,e4]
  exact hn ((dec n).length - (j + 1)) _ (by omega) ⟨j + 1,hlt,rfl,h0,h6,h7,rfl,rfl⟩
 ·have e1:decide ((j:Int) < ((dec n).length:Int))=false:=by rw[decide_eq_false_iff_not];omega
  simp only[go_sem,h0,h6,h7,h8,j4t,e1]
  refine he _ _ ?_
  rcases Nat.eq_zero_or_pos n with rfl | hpos
  ·have e2:decide (dec 0=[48])=true:=by rw[z4d];rfl
   simp only[go_sem,h0,e2,Bool.not_true]
   rw[z0d]
   exact hT _
  ·obtain⟨c,t,hct,hc1,hc2⟩:=j4m hpos
   have e2:decide (dec n=[48])=false:=by rw[z4d,decide_eq_false_iff_not];omega
   have e3:decide (dec n=[])=false:=by simp[z8y n]
   have e4:∀ h k,q5i h (.str (dec n)) (.int k 0)=some (.int .u8 (c:Int),h):=fun h k=>by rw[hct];exact z6h
   have e5:decide ((c:Int)=48)=false:=by rw[decide_eq_false_iff_not];omega
   simp only[go_sem,h0,e2,e3,e4,e5,Bool.not_false,Bool.not_true]
   rw[z0d]
   exact hT _
theorem k3e {z:Int} (hl:(dec z.natAbs).length≤1000):Pure Gam 187 [.str (z3k z)] (.bool true):=by
 refine Pure.of rfl u4l rfl rfl rfl rfl rfl fun D B clk T hB hT=> ?_
 by_cases hz:z < 0
 ·have e1:decide (dec z.natAbs=[48])=false:=by rw[z4d,decide_eq_false_iff_not];omega
  rw[z3k,if_pos hz]
  simp only[go_sem,w1k]
  rw[z0a x0k]
  simp only[go_sem,]
  rw[z0a (q6n hl)]
  simp only[go_sem,e1,Bool.not_false]
  rw[z0d]
  exact hT _
 ·obtain⟨c,t,hct⟩:=List.exists_cons_of_ne_nil (z8y z.natAbs)
  have hc:=z1u z.natAbs c (by rw[hct];exact List.mem_cons_self)
  have hp:Pure Gam 232 [.str (dec z.natAbs), .str [45]] (.tup [.str (dec z.natAbs), .bool false]):=by rw[hct];exact x0l (by omega)
  rw[z3k,if_neg hz]
  simp only[go_sem,w1k]
  rw[z0a hp]
  simp only[go_sem,]
  rw[z0a (q6n hl)]
  simp only[go_sem,Bool.not_false]
  rw[z0d]
  exact hT _
theorem Pure.ext {f:Nat} {args:List AV} {sem:List AV→Option AV} {v:AV} (hext:Gam.ext f=some sem) (hobs:z3y args=[]) (hv:sem (cvL args)=some v):Pure Gam f args v:=by
 intro h clk
 constructor
 ·refine⟨0, ?_⟩
  unfold z5f z0q
  simp only[hext,z1o hobs,z5a hobs,List.isEmpty_nil,if_true,hv,Option.map_some]
 ·unfold z0z
  simp only[hext,hobs,List.map_nil,List.append_nil]
def q2i (s:List Nat):Int:=match s.findIdx? (fun (b:Nat)=>decide ((b:Int)=47)) with
 | some i=>(i:Int)
 | none=> -1
theorem w1m {s:List Nat}:Pure Gam 309 [.str s, .int .u8 47] (.int .i64 (q2i s)):=Pure.ext (sem:=x2h) rfl rfl (by simp[cvL,AV.cv,x2h,q2i];rfl)
theorem k3f {c:Nat} {t:List Nat} (hc:c≠47):Pure Gam 288 [.str (c::t), .str [47]] (.int .i64 (q2i (c::t))):=by
 have h292:Pure Gam 298 [.str (c::t), .int .u8 47] (.int .i64 (q2i (c::t))):=by
  refine Pure.of rfl u3p rfl rfl rfl rfl rfl fun D B clk T hB hT=> ?_
  simp only[go_sem,y2j]
  rw[z0a w1m]
  simp only[go_sem,]
  rw[z2r]
  exact hT _
 refine Pure.of rfl u3o rfl rfl rfl rfl rfl fun D B clk T hB hT=> ?_
 have e2:decide ([47]=c::t)=false:=by rw[decide_eq_false_iff_not];intro h;injection h with h1 _;exact hc h1.symm
 simp only[go_sem,y2i,Nat.zero_add,Int.cast_ofNat_Int,Int.reduceEq,decide_true,decide_false,Bool.not_false,e2,z6h]
 rw[z0a h292]
 simp only[go_sem,]
 rw[z2r]
 exact hT _
theorem j8k {s:List Nat} (hd:∀ c∈s,c≠47):q2i s= -1:=by
 unfold q2i
 rw[List.findIdx?_eq_none_iff.2 fun c hc=>by have:=hd c hc;simp;omega]
theorem k8v {s r:List Nat} (hd:∀ c∈s,c≠47):q2i (s++47::r)=(s.length:Int):=by
 have h:(s++47::r).findIdx? (fun (b:Nat)=>decide ((b:Int)=47))=some s.length:=by
  induction s with
  | nil=>simp[List.findIdx?_cons]
  | cons c s ih=>
    have hc:=hd c List.mem_cons_self
    have:=ih fun d hd'=>hd d (List.mem_cons_of_mem _ hd')
    rw[List.cons_append,List.findIdx?_cons,this]
    have:decide ((c:Int)=47)=false:=by rw[decide_eq_false_iff_not];omega
    simp[this]
 unfold q2i
 rw[h]
theorem x9h {s:List Nat} (hne:s≠[]) (hd:∀ c∈s,c≠47):Pure Gam 274 [.str s, .str [47]] (.tup [.str s, .str [], .bool false]):=by
 obtain⟨c,t,rfl⟩:=List.exists_cons_of_ne_nil hne
 have hp:Pure Gam 283 [.str (c::t), .str [47]] (.tup [.str (c::t), .str [], .bool false]):=by
  refine Pure.of rfl y2h rfl rfl rfl rfl rfl fun D B clk T hB hT=> ?_
  simp only[go_sem,w1a]
  rw[z0a (k3f (hd c List.mem_cons_self)),j8k hd]
  simp only[go_sem,Int.reduceLE,decide_false]
  rw[z0j rfl rfl]
  exact hT _
 refine Pure.of rfl y2g rfl rfl rfl rfl rfl fun D B clk T hB hT=> ?_
 simp only[go_sem,w0z]
 rw[z0a hp]
 simp only[go_sem,]
 rw[z0j rfl rfl]
 exact hT _
theorem j8l {s r:List Nat} (hne:s≠[]) (hd:∀ c∈s,c≠47) (hl:s.length≤1000):Pure Gam 274 [.str (s++47::r), .str [47]] (.tup [.str s, .str r, .bool true]):=by
 obtain⟨c,t,hs⟩:=List.exists_cons_of_ne_nil hne
 have hi:Pure Gam 288 [.str (s++47::r), .str [47]] (.int .i64 (s.length:Int)):=by
  rw[←k8v (r:=r) hd,hs]
  exact k3f (hd c (by rw[hs];exact List.mem_cons_self))
 have hp:Pure Gam 283 [.str (s++47::r), .str [47]] (.tup [.str s, .str r, .bool true]):=by
  refine Pure.of rfl y2h rfl rfl rfl rfl rfl fun D B clk T hB hT=> ?_
  have e1:decide (0≤(s.length:Int))=true:=by rw[decide_eq_true_iff];omega
  have e2:IntKind.i64.wrap ((s.length:Int) + 1)=((s.length + 1:Nat):Int):=z0f (by omega) (by omega)
  have e3:(s++47::r).take s.length=s:=List.take_left
  have e4:(s++47::r).drop (s.length + 1)=r:=by rw[List.drop_append,Nat.add_sub_cancel_left,List.drop_of_length_le (by omega)];rfl
  have h1:∀ h,slV h none (.str (s++47::r)) none (some (.int .i64 (s.length:Int))) none=some (.str s,h):=fun h=>by rw[y2u (by simp),e3]
  have h2:∀ h,slV h none (.str (s++47::r)) (some (.int .i64 ((s.length + 1:Nat):Int))) none none=some (.str r,h):=fun h=>by rw[k8j (by simp),e4]
  simp only[go_sem,w1a]
  rw[z0a hi]
  simp only[go_sem,e1,Nat.zero_add,Int.cast_ofNat_Int,e2,h1,h2]
  rw[z0j rfl rfl]
  exact hT _
 refine Pure.of rfl y2g rfl rfl rfl rfl rfl fun D B clk T hB hT=> ?_
 simp only[go_sem,w0z]
 rw[z0a hp]
 simp only[go_sem,]
 rw[z0j rfl rfl]
 exact hT _
def nl (n:Nat):List Nat:=if n=0 then [] else n % 1000000000::nl (n / 1000000000)
termination_by n
decreasing_by omega
theorem z9b:nl 0=[]:=by rw[nl,if_pos rfl]
theorem x0n {n:Nat} (h:0 < n):nl n=n % 1000000000::nl (n / 1000000000):=by rw[nl,if_neg (by omega)]
theorem x5k {n:Nat} (h:0 < n) (h2:n < 1000000000):nl n=[n]:=by
 rw[x0n h,Nat.mod_eq_of_lt h2,Nat.div_eq_of_lt h2,z9b]
def z7v:List Nat→Nat
 | []=>0
 | x::l=>x + 1000000000 * z7v l
theorem q4h (n:Nat):z7v (nl n)=n:=by
 induction n using Nat.strongRecOn with
 | ind n ih=>
   rcases Nat.eq_zero_or_pos n with rfl | h
   ·rw[z9b];rfl
   ·rw[x0n h,z7v,ih _ (by omega)]
    omega
theorem w1n (n:Nat):∀ x∈nl n,x < 1000000000:=by
 induction n using Nat.strongRecOn with
 | ind n ih=>
   rcases Nat.eq_zero_or_pos n with rfl | h
   ·rw[z9b];simp
   ·rw[x0n h]
    intro x hx
    rw[List.mem_cons] at hx
    rcases hx with rfl | hx
    ·omega
    ·exact ih _ (by omega) x hx
theorem q4i {a b:List Nat}:z7v (a++b)=z7v a + 1000000000 ^ a.length * z7v b:=by
 induction a with
 | nil=>simp[z7v]
 | cons x a ih=>
   simp only[List.cons_append,z7v,ih,List.length_cons,Nat.pow_succ]
   rw[Nat.mul_add,←Nat.mul_assoc,Nat.mul_comm (1000000000 ^ a.length) 1000000000]
   omega
theorem w1o {l:List Nat} (h:∀ x∈l,x < 1000000000):z7v l < 1000000000 ^ l.length:=by
 induction l with
 | nil=>simp[z7v]
 | cons x l ih=>
   have h1:=ih fun y hy=>h y (List.mem_cons_of_mem _ hy)
   have h2:=h x List.mem_cons_self
   simp only[z7v,List.length_cons,Nat.pow_succ]
   omega
theorem w1p {l:List Nat} (h:∀ x∈l,x < 1000000000) (hc:∀ l',l≠l'++[0]):nl (z7v l)=l:=by
 induction l with
 | nil=>exact z9b
 | cons x l ih=>
   have hx:=h x List.mem_cons_self
   have hl:nl (z7v l)=l:=ih (fun y hy=>h y (List.mem_cons_of_mem _ hy)) fun l' e=>hc (x::l') (by rw[e];rfl)
   have hpos:0 < x + 1000000000 * z7v l:=by
    rcases Nat.eq_zero_or_pos (z7v l) with h0 | h0
    ·rw[h0,z9b] at hl
     have:x≠0:=fun e=>hc [] (by rw[e,←hl];rfl)
     omega
    ·omega
   rw[z7v,x0n hpos]
   congr 1
   ·omega
   ·rw[show (x + 1000000000 * z7v l) / 1000000000=z7v l by omega,hl]
theorem y3l {n k:Nat} (h:n < 1000000000 ^ k):(nl n).length≤k:=by
 induction k generalizing n with
 | zero=>
   have:n=0:=by simpa using h
   rw[this,z9b];simp
 | succ k ih=>
   rcases Nat.eq_zero_or_pos n with rfl | hp
   ·rw[z9b];simp
   ·rw[x0n hp,List.length_cons]
    have:=ih (n:=n / 1000000000) (by rw[Nat.pow_succ] at h;omega)
    omega
theorem q6o:∀ {os:List (Nat×Nat)} {h:List AObj},(freezeAll h os).length=h.length
 | [],_=>rfl
 | o::os,h=>by
   simp only[freezeAll]
   rw[q6o]
   split
   ·rw[List.length_set]
   ·rfl
theorem j8m {f:Nat} {args az:List AV} {h:List AObj} {clk:Nat} {v:AV} {af:AFun} (hp:Pure Gam f az v) (hext:Gam.ext f=none) (hfn:Gam.fn f=some af) (hb:af.byref=[]) (ho:af.owned=false) (hpa:z1d h [] 0 args=some az) (hcv:cvL az=az) (hobs:z3y az=[]) (hids:idsL az=[]) (hv:v.ids=[]):
  ∃ k,z5f Gam k f args h clk=some (v,if v.flat then h else freezeAll h (z0p [] 0 args),clk):=by
 obtain⟨⟨k,hk⟩,_⟩:=hp (freezeAll h (z0p [] 0 args)) clk
 refine⟨k, ?_⟩
 have hpa2:z1d (freezeAll h (z0p [] 0 args)) [] 0 az=some az:=by rw[z1o hobs,hcv]
 have hl2:z0p [] 0 az=[]:=z5a hobs
 unfold z5f z0q at hk⊢
 simp only[hext,hfn,hb,hpa,hpa2,hl2,hids,reach,freezeAll,q6o,z5b,ho,Bool.false_eq_true,if_false] at hk⊢
 generalize z4l Gam k h.length af.body _=E at hk⊢
 match E,hk with
 | none,hk=>cases hk
 | some (.exit i,s),hk=>cases hk
 | some (.norm,s),hk=>
   simp only at hk⊢
   generalize z1z s.h s.ts af.results=R at hk⊢
   cases R with
   | none=>cases hk
   | some vs=>
     simp only at hk⊢
     generalize conv s.h (z1l vs)=W at hk⊢
     cases W with
     | none=>cases hk
     | some w=>
       simp only at hk⊢
       have hw:w=v:=by
        revert hk
        generalize List.all _ _=b
        cases b
        ·intro hk
         simp only[Bool.false_eq_true,if_false,Option.some.injEq,Prod.mk.injEq] at hk
         exact hk.1
        ·intro hk
         simp only[if_true,Option.some.injEq,Prod.mk.injEq] at hk
         exact hk.1
       subst hw
       simp only[hv,List.isEmpty_nil,Bool.and_true,List.map_nil,List.flatten_nil,List.append_nil,List.all_nil,if_true,z7t]
 | some (.ret,s),hk=>
   simp only at hk⊢
   generalize z1z s.h s.ts af.results=R at hk⊢
   cases R with
   | none=>cases hk
   | some vs=>
     simp only at hk⊢
     generalize conv s.h (z1l vs)=W at hk⊢
     cases W with
     | none=>cases hk
     | some w=>
       simp only at hk⊢
       have hw:w=v:=by
        revert hk
        generalize List.all _ _=b
        cases b
        ·intro hk
         simp only[Bool.false_eq_true,if_false,Option.some.injEq,Prod.mk.injEq] at hk
         exact hk.1
        ·intro hk
         simp only[if_true,Option.some.injEq,Prod.mk.injEq] at hk
         exact hk.1
       subst hw
       simp only[hv,List.isEmpty_nil,Bool.and_true,List.map_nil,List.flatten_nil,List.append_nil,List.all_nil,if_true,z7t]
theorem j2c {f base gg clk:Nat} {args az:List AV} {h:List AObj} {v:AV} {af:AFun} {dst:Option Nat} {os:List AOper} {ts:Tmps} {ks:List Kf} {Q:Post} (hp:Pure Gam f az v) (hext:Gam.ext f=none) (hfn:Gam.fn f=some af) (hb:af.byref=[]) (ho:af.owned=false) (hpa:z1d h [] 0 args=some az) (hcv:cvL az=az) (hobs:z3y az=[]) (hids:idsL az=[]) (hv:v.ids=[]):
  CK Gam base f args h clk .plain dst gg os ts ks Q=O Gam base .plain (gg + 1) os ⟨z8c ts dst v,if v.flat then h else freezeAll h (z0p [] 0 args),clk⟩ ks Q:=by
 obtain⟨k,hk⟩:=j8m (clk:=clk) hp hext hfn hb ho hpa hcv hobs hids hv
 unfold CK
 apply propext
 constructor
 ·rintro ⟨k',v',h',c,hc,hq⟩
  have:=q9r hk hc
  simp only[Prod.mk.injEq] at this
  obtain⟨rfl,rfl,rfl⟩:=this
  exact hq
 ·intro hq
  exact⟨k,_,_,_,hk,hq⟩
def z4m (x:Nat):AV:= .int .u32 (x:Int)
theorem z3s {l:List Nat}:idsL (l.map z4m)=[]:=z0b fun _=>rfl
theorem x0o {l:List Nat}:z0o 1 (l.map z4m)=true:=z3x fun _=>⟨rfl,rfl,rfl⟩
theorem x5l {T:List Nat} {l:List Nat} {t:Tip} {R:AV→List AObj→Prop} {h:List AObj}:RV T (some [.sl (l.map z4m) t]) R h=R (.sl (l.map z4m) .no) h:=z2q rfl (by simp[AV.cv,AV.ids,z3s])
theorem x0p {T:List Nat} {l l':List Nat} {t t':Tip} {R:AV→List AObj→Prop} {h:List AObj}:RV T (some [.sl (l.map z4m) t, .sl (l'.map z4m) t']) R h=R (.tup [.sl (l.map z4m) .no, .sl (l'.map z4m) .no]) h:=z0j rfl (by simp[z1l,AV.cv,cvL,AV.ids,idsL,z3s])
theorem q1h {l:List Nat} {i:Nat} {h:List AObj} {t:Tip} {k:IntKind} (hi:i < l.length):z1n h 1 (.sl (l.map z4m) t) (.int k (i:Int))=some (.iptr [.int .u32 (l[i]:Int)] 0,h):=z5p (e:= .int .u32 (l[i]:Int)) (by simp[z4m,hi]) rfl
theorem w1q {l:List Nat} {n:Nat} {h:List AObj} (hn:n≤l.length):slV h (some 1) (.sl (l.map z4m) .no) none (some (.int .i64 (n:Int))) none=some (.sl ((l.take n).map z4m) .no,h):=by
 have hh:z5m 1 (l.map z4m)=true:=by cases l <;> rfl
 have hn':n≤(l.map z4m).length:=by rw[List.length_map];exact hn
 simp[slV,z3c,z5l,hh,hn]
theorem x1z {l:List Nat} {n:Nat} (hn:n < l.length) (h0:l[n]=0):z7v (l.take (n + 1))=z7v (l.take n):=by
 rw[List.take_succ_eq_append_getElem hn,q4i,h0]
 simp[z7v]
theorem j2d {l:List Nat} {t:Tip} (hb:∀ x∈l,x < 1000000000) (hl:l.length≤1000):Pure Gam 286 [.sl (l.map z4m) t] (.sl ((nl (z7v l)).map z4m) .no):=by
 refine Pure.of rfl y2r rfl rfl rfl (az:=[.sl (l.map z4m) .no]) rfl (by simp[idsL,AV.ids,AV.cv,z3s]) fun D B clk T hB hT=> ?_
 simp only[go_sem,y2q,List.length_map]
 refine z1q (fun m q=>m≤l.length∧z7v (l.take m)=z7v l∧q.ts 0= .sl (l.map z4m) .no∧q.ts 3= .int .i64 (m:Int)∧q.h=D++[]) l.length ⟨Nat.le_refl _,by rw[List.take_length],rfl,rfl,rfl⟩ ?_
 rintro m ⟨ts,h,clk⟩ P ⟨hm,hv,h0,h3,rfl⟩ hn he hr
 dsimp only at h0 h3
 have fin:nl (z7v l)=l.take m→∀ (ts':Tmps) (clk':Nat),ts' 0= .sl (l.map z4m) .no→ts' 3= .int .i64 (m:Int)→P (.exit 0) ⟨ts',D++[],clk'⟩:=by
  intro hc ts' clk' q0 q3
  refine he _ _ ?_
  simp only[go_sem,q0,q3,w1q hm]
  rw[x5l,←hc]
  exact hT _
 rcases Nat.eq_zero_or_pos m with rfl | hpos
 ·have e1:decide ((0:Int) < 0)=false:=rfl
  simp only[go_sem,h0,h3,x9e,e1]
  exact fin (by rw[←hv,List.take_zero];exact z9b) _ _ h0 h3
 ·have e1:decide ((0:Int) < (m:Int))=true:=by rw[decide_eq_true_iff];omega
  have e2:IntKind.i64.wrap ((m:Int) - 1)=((m - 1:Nat):Int):=by rw[z0f (by omega) (by omega)];omega
  have hlt:m - 1 < l.length:=by omega
  by_cases hz:l[m - 1]=0
  ·have e3:decide (((l[m - 1]:Nat):Int)=0)=true:=by rw[decide_eq_true_iff];omega
   simp only[go_sem,h0,h3,x9e,e1,e2,q1h hlt,e3]
   refine hn (m - 1) _ (by omega) ⟨by omega, ?_,h0,rfl,rfl⟩
   rw[←hv,←x1z hlt hz,show m - 1 + 1=m by omega]
  ·have e3:decide (((l[m - 1]:Nat):Int)=0)=false:=by rw[decide_eq_false_iff_not];omega
   simp only[go_sem,h0,h3,x9e,e1,e2,q1h hlt,e3]
   refine fin ?_ _ _ h0 h3
   rw[←hv]
   refine w1p (fun x hx=>hb x (List.mem_of_mem_take hx)) fun l' e=>hz ?_
   have h1:l.take m=l.take (m - 1)++[l[m - 1]]:=by
    have:=List.take_succ_eq_append_getElem hlt
    rwa [show m - 1 + 1=m by omega] at this
   rw[h1] at e
   have:=List.append_inj' e rfl
   simpa using this.2
theorem u64_in {n:Int} (h1:0≤n) (h2:n≤18446744073709551615):IntKind.u64.wrap n=n:=IntWalk.u64_in _ ⟨h1,h2⟩
theorem u32_in {n:Int} (h1:0≤n) (h2:n≤4294967295):IntKind.u32.wrap n=n:=IntWalk.u32_in _ ⟨h1,h2⟩
theorem x3p (l:List Nat) (k:Nat):z7v l=z7v (l.take k) + 1000000000 ^ (l.take k).length * z7v (l.drop k):=by
 rw[←q4i,List.take_append_drop]
theorem x9i {a b:List Nat} {k:Nat} (ha:∀ x∈a,x < 1000000000) (hl:a.length=b.length) (hka:k < a.length) (hkb:k < b.length) (hd:a.drop (k + 1)=b.drop (k + 1)) (h:a[k] < b[k]):z7v a < z7v b:=by
 rw[x3p a k,x3p b k,List.drop_eq_getElem_cons hka,List.drop_eq_getElem_cons hkb,hd]
 have h1:(a.take k).length=k:=by simp;omega
 have h2:(b.take k).length=k:=by simp;omega
 have h3:=w1o (l:=a.take k) fun x hx=>ha x (List.mem_of_mem_take hx)
 rw[h1] at h3
 rw[h1,h2]
 have h4:1000000000 ^ k * (1 + z7v (a[k]::b.drop (k + 1)))≤1000000000 ^ k * z7v (b[k]::b.drop (k + 1)):=Nat.mul_le_mul_left _ (by simp only[z7v];omega)
 rw[Nat.mul_add] at h4
 omega
theorem x9j {x y:Nat} (h:x≤y):(nl x).length≤(nl y).length:=by
 induction y using Nat.strongRecOn generalizing x with
 | ind y ih=>
   rcases Nat.eq_zero_or_pos x with rfl | hx
   ·rw[z9b];simp
   ·rw[x0n hx,x0n (n:=y) (by omega),List.length_cons,List.length_cons]
    have:=ih (y / 1000000000) (by omega) (x:=x / 1000000000) (Nat.div_le_div_right h)
    omega
theorem z2e {base:Nat} {b:ACode} {ks:List Kf} {s:St} {Q:Post} (h:K Gam base b (.seq (.loop b)::ks) s Q):K Gam base (.loop b) ks s Q:=by
 rw[←v7g] at h
 have:∀ Q,W Gam base (.seq b (.loop b)) s Q=W Gam base (.loop b) s Q:=fun Q=>by
  apply propext
  constructor
  ·rintro ⟨k,e,s',h,hq⟩
   cases k with
   | zero=>cases h
   | succ k=>exact⟨k + 1,e,s',h,hq⟩
  ·rintro ⟨k,e,s',h,hq⟩
   cases k with
   | zero=>cases h
   | succ k=>exact⟨k + 1,e,s',h,hq⟩
 rw[w4v this] at h
 exact h
theorem z2s {h:List AObj} {K k:IntKind} {n:Int} {xs:List AV} {t:Tip}:z1n h 1 (.sl (.int K n::xs) t) (.int k 0)=some (.iptr [.int K n] 0,h):=z5p (i:=0) (e:= .int K n) rfl rfl
theorem w1r {x y:Nat} (hx:(nl x).length≤1000) (hy:(nl y).length≤1000):∃ r:Int,(r < 0↔x < y)∧(r=0↔x=y)∧Pure Gam 294 [.sl ((nl x).map z4m) .no, .sl ((nl y).map z4m) .no] (.int .i64 r):=by
 have hbx:=w1n x
 have hby:=w1n y
 by_cases hl:(nl x).length=(nl y).length
 ·
  have e1:decide (((nl x).length:Int)=((nl y).length:Int))=true:=by rw[decide_eq_true_iff];omega
  have key:∀ m,m≤(nl x).length→(nl x).drop m=(nl y).drop m→∃ r:Int,(r < 0↔x < y)∧(r=0↔x=y)∧∀ (D:List AObj) (B clk:Nat) (T:AV→List AObj→Prop) (ks:List Kf) (ts:Tmps) (Q:Post),ts 0= .sl ((nl x).map z4m) .no→ts 1= .sl ((nl y).map z4m) .no→ts 5= .int .i64 ((m:Int) - 1)→
    (∀ ts' clk',ts' 4= .int .i64 r→K Gam B .ret ks ⟨ts',D++[],clk'⟩ Q)→(r=0→∀ ts' clk',K Gam B (.exit 0) ks ⟨ts',D++[],clk'⟩ Q)→K Gam B (.loop x3k) ks ⟨ts,D++[],clk⟩ Q:=by
   intro m
   induction m with
   | zero=>
     intro _ hd
     have hxy:x=y:=by
      rw[List.drop_zero,List.drop_zero] at hd
      rw[←q4h x,←q4h y,hd]
     refine⟨0,by omega,by simp[hxy],fun D B clk T ks ts Q h0 h1 h5 _ hx=> ?_⟩
     refine z1q (fun _ q=>q.ts 5= .int .i64 (-1)∧q.h=D++[]) 0 ⟨by simpa using h5,rfl⟩ ?_
     rintro m ⟨ts,h,clk⟩ P ⟨h5,rfl⟩ hn he hr
     dsimp only at h5
     simp only[go_sem,h5,x3k,Int.reduceLE,Int.reduceNeg,decide_false]
     exact he _ _ (hx rfl _ _)
   | succ m ih=>
     intro hm hd
     have hkx:m < (nl x).length:=by omega
     have hky:m < (nl y).length:=by omega
     have e2:decide ((0:Int)≤((m + 1:Nat):Int) - 1)=true:=by rw[decide_eq_true_iff];omega
     have e3:((m + 1:Nat):Int) - 1=(m:Int):=by omega
     have e4:decide ((0:Int)≤(m:Int))=true:=by rw[decide_eq_true_iff];omega
     have hxm:=hbx _ (List.getElem_mem hkx)
     have hym:=hby _ (List.getElem_mem hky)
     have w1:∀ z:Nat,z < 1000000000→IntKind.i64.wrap (z:Int)=(z:Int):=fun z hz=>z0f (by omega) (by omega)
     have w2:=w1 _ hxm
     have w3:=w1 _ hym
     by_cases hne:(nl x)[m]=(nl y)[m]
     ·obtain⟨r,h1,h2,h3⟩:=ih (by omega) (by rw[List.drop_eq_getElem_cons hkx,List.drop_eq_getElem_cons hky,hd,hne])
      refine⟨r,h1,h2,fun D B clk T ks ts Q q0 q1 q5 hr hx=> ?_⟩
      rw[e3] at q5
      have e5:decide (((nl x)[m]:Int)=((nl y)[m]:Int))=true:=by rw[decide_eq_true_iff];omega
      have e6:IntKind.i64.wrap ((m:Int) - 1)=(m:Int) - 1:=z0f (by omega) (by omega)
      refine z2e ?_
      simp only[go_sem,q0,q1,q5,x3k,e4,q1h hkx,q1h hky,e5,Bool.not_true,e6]
      exact h3 D B _ T ks _ Q (by simp[z0c,q0]) (by simp[z0c,q1]) (by simp[z0c]) hr hx
     ·refine⟨((nl x)[m]:Int) - ((nl y)[m]:Int), ?_, ?_,fun D B clk T ks ts Q q0 q1 q5 hr hx=> ?_⟩
      ·constructor
       ·intro h
        have:=x9i hbx hl hkx hky hd (by omega)
        rwa [q4h,q4h] at this
       ·intro h
        refine Classical.byContradiction fun hc=> ?_
        have:=x9i hby hl.symm hky hkx hd.symm (by omega)
        rw[q4h,q4h] at this
        omega
      ·constructor
       ·intro h;omega
       ·intro h;subst h;omega
      ·rw[e3] at q5
       have e5:decide (((nl x)[m]:Int)=((nl y)[m]:Int))=false:=by rw[decide_eq_false_iff_not];omega
       have e6:IntKind.i64.wrap (((nl x)[m]:Int) - ((nl y)[m]:Int))=((nl x)[m]:Int) - ((nl y)[m]:Int):=z0f (by omega) (by omega)
       refine z2e ?_
       simp only[go_sem,q0,q1,q5,x3k,e4,q1h hkx,q1h hky,e5,Bool.not_false,w2,w3,e6]
       exact hr _ _ (by simp[z0c])
  obtain⟨r,h1,h2,h3⟩:=key (nl x).length (Nat.le_refl _) (by rw[List.drop_length,hl,List.drop_length])
  refine⟨r,h1,h2,Pure.of rfl y2s rfl rfl rfl (az:=[.sl ((nl x).map z4m) .no, .sl ((nl y).map z4m) .no]) rfl (by simp[idsL,AV.ids,AV.cv,z3s]) fun D B clk T hB hT=> ?_⟩
  have e2:IntKind.i64.wrap (((nl x).length:Int) - 1)=((nl x).length:Int) - 1:=z0f (by omega) (by omega)
  have e3:IntKind.i64.wrap (((nl y).length:Int) - 1)=((nl x).length:Int) - 1:=by rw[z0f (by omega) (by omega)];omega
  simp only[go_sem,w1c,List.length_map,e1,Bool.not_true,e2]
  refine h3 D B _ T _ _ _ (by simp[z0c,z3l]) (by simp[z0c,z7l,z3l]) (by simp[z0c]) (fun ts' clk' q4=> ?_) (fun hr0 ts' clk'=> ?_)
  ·simp only[go_sem,q4]
   rw[z2r]
   exact hT _
  ·simp only[go_sem,]
   rw[z2r,←hr0]
   exact hT _
 ·have e1:decide (((nl x).length:Int)=((nl y).length:Int))=false:=by rw[decide_eq_false_iff_not];omega
  have e2:IntKind.i64.wrap (((nl x).length:Int) - ((nl y).length:Int))=((nl x).length:Int) - ((nl y).length:Int):=z0f (by omega) (by omega)
  refine⟨((nl x).length:Int) - ((nl y).length:Int), ?_, ?_,Pure.of rfl y2s rfl rfl rfl (az:=[.sl ((nl x).map z4m) .no, .sl ((nl y).map z4m) .no]) rfl (by simp[idsL,AV.ids,AV.cv,z3s]) fun D B clk T hB hT=> ?_⟩
  ·constructor
   ·intro h
    refine Classical.byContradiction fun hc=> ?_
    have:=x9j (x:=y) (y:=x) (by omega)
    omega
   ·intro h
    have:=x9j (x:=x) (y:=y) (by omega)
    omega
  ·constructor
   ·intro h;omega
   ·intro h;subst h;omega
  ·simp only[go_sem,w1c,List.length_map,e1,Bool.not_false,e2]
   rw[z2r]
   exact hT _
theorem w1s {l:List Nat}:Pure Gam 279 [.sl (l.map z4m) .no] (.bool (decide (l=[1]))):=by
 refine Pure.of rfl u3x rfl rfl rfl (az:=[.sl (l.map z4m) .no]) rfl (by simp[idsL,AV.ids,AV.cv,z3s]) fun D B clk T hB hT=> ?_
 match l with
 | []=>
   simp only[go_sem,k8i,List.map_nil,Int.cast_ofNat_Int,Int.reduceEq,decide_false]
   rw[z0d]
   exact hT _
 | [x]=>
   have e:decide ((x:Int)=1)=decide ([x]=[1]):=by rw[decide_eq_decide];simp;omega
   simp only[go_sem,k8i,z4m,List.map_cons,List.map_nil,Nat.zero_add,Int.cast_ofNat_Int,decide_true,z2s,e]
   rw[z0d]
   exact hT _
 | x::y::l=>
   have e:decide (((l.length + 1 + 1:Nat):Int)=1)=false:=by rw[decide_eq_false_iff_not];omega
   have e2:decide (x::y::l=[1])=false:=by simp
   rw[e2] at hT
   simp only[go_sem,k8i,List.length_map,List.map_cons,e]
   rw[z0d]
   exact hT _
theorem k3g {l:List Nat} {k:Nat} (h:k < l.length):z7v (l.drop k)=l[k] + 1000000000 * z7v (l.drop (k + 1)):=by
 rw[List.drop_eq_getElem_cons h,z7v]
theorem j8n {D L:List AObj} {B k g n:Nat} {es:List AV} {w:Bool} (hB:D.length=B) (hL:L[k]? =some (.blk g es true w 0)):freezeAll (D++L) [(B + k,n)]=D++L.set k (.blk g es true w n):=by
 have hg:(D++L)[B + k]? =some (.blk g es true w 0):=by rw[z2v hB];exact hL
 simp only[freezeAll,hg,z1t hB,Nat.zero_max]
theorem w1t {la:List Nat} {b:Nat} (ha:∀ x∈la,x < 1000000000) (hl:la.length≤1000) (hb0:0 < b) (hb:b < 1000000000):Pure Gam 295 [.sl (la.map z4m) .no, .int .u32 (b:Int)] (.tup [.sl ((nl (z7v la / b)).map z4m) .no, .sl ((nl (z7v la % b)).map z4m) .no]):=by
 refine Pure.of rfl u4a rfl rfl rfl (az:=[.sl (la.map z4m) .no, .int .u32 (b:Int)]) rfl (by simp[idsL,AV.ids,AV.cv,z3s]) fun D B clk T hB hT=> ?_
 have e0:IntKind.i64.wrap ((la.length:Int) - 1)=(la.length:Int) - 1:=z0f (by omega) (by omega)
 have hms:∀ h s g,msV h s g (.int .u32 0) 4 (.int .i64 (la.length:Int)) (.int .i64 (la.length:Int))=some (.ob s g 0 la.length,h.set s (.blk g (List.replicate la.length (.int .u32 0)) true false 0)):=fun h s g=>x0j rfl (by omega)
 simp only[go_sem,y2t,List.length_map,hB,hms,e0]
 generalize hgr:clk + 2 + 2=gr
 refine z1q (fun m q=>∃ (i r:Nat) (qs:List Nat),i≤la.length∧m=la.length - i∧qs.length=i∧(∀ x∈qs,x < 1000000000)∧r < b∧z7v (la.drop (la.length - i))=b * z7v qs + r∧q.ts 0= .sl (la.map z4m) .no∧q.ts 1= .int .u32 (b:Int)∧q.ts 6= .ob (B + 0) gr 0 la.length∧q.ts 7= .int .u64 (r:Int)∧q.ts 8= .int .i64 ((la.length:Int) - i - 1)∧
  q.h=D++[.blk gr (List.replicate (la.length - i) (.int .u32 0)++qs.map z4m) true false 0, .dead]) la.length ?_ ?_
 ·refine⟨0,0,[],by omega,rfl,rfl,by simp,hb0,by simp[z7v],rfl,rfl, ?_,rfl,by simp[z0c],by simp⟩
  subst hgr;rfl
 rintro m ⟨ts,h,clk⟩ P ⟨i,r,qs,hi,rfl,hql,hqb,hr,hw,h0,h1,h6,h7,h8,rfl⟩ hn he hrt
 dsimp only at h0 h1 h6 h7 h8
 by_cases hlt:i < la.length
 ·have hk:la.length - 1 - i < la.length:=by omega
  have e1:(la.length:Int) - i - 1=((la.length - 1 - i:Nat):Int):=by omega
  rw[e1] at h8
  have e2:decide ((0:Int)≤((la.length - 1 - i:Nat):Int))=true:=by rw[decide_eq_true_iff];omega
  have hx:=ha _ (List.getElem_mem hk)
  have hdr:=k3g hk
  generalize hxx:la[la.length - 1 - i]=x at hx hdr
  rw[show la.length - 1 - i + 1=la.length - i by omega,hw] at hdr
  have hv:r * 1000000000 + x < b * 1000000000:=by
   have:(r + 1) * 1000000000≤b * 1000000000:=Nat.mul_le_mul_right _ hr
   omega
  have hv2:b * 1000000000 < 1000000000 * 1000000000:=Nat.mul_lt_mul_of_pos_right hb (by omega)
  have hquo:(r * 1000000000 + x) / b < 1000000000:=(Nat.div_lt_iff_lt_mul hb0).2 (by rw[Nat.mul_comm 1000000000 b];exact hv)
  have hrem:(r * 1000000000 + x) % b < b:=Nat.mod_lt _ hb0
  have hdm:=Nat.div_add_mod (r * 1000000000 + x) b
  generalize hq:(r * 1000000000 + x) / b=y at hquo hdm
  generalize hz:(r * 1000000000 + x) % b=z at hrem hdm
  have hidx0:∀ h,z1n h 1 (.sl (la.map z4m) .no) (.int .i64 ((la.length - 1 - i:Nat):Int))=some (.iptr [.int .u32 (x:Int)] 0,h):=fun h=>by rw[q1h hk,hxx]
  have w1:IntKind.u64.wrap ((r:Int) * 1000000000)=((r * 1000000000:Nat):Int):=by rw[u64_in (by omega) (by omega)];omega
  have w2:IntKind.u64.wrap (x:Int)=(x:Int):=u64_in (by omega) (by omega)
  have w3:IntKind.u64.wrap (((r * 1000000000:Nat):Int) + (x:Int))=((r * 1000000000 + x:Nat):Int):=by rw[u64_in (by omega) (by omega)];omega
  have w4:IntKind.u64.wrap (b:Int)=(b:Int):=u64_in (by omega) (by omega)
  have w5:IntKind.u32.wrap (IntKind.u64.wrap ((((r * 1000000000 + x:Nat):Int)).tdiv (b:Int)))=(y:Int):=by
   rw[IntWalk.up_tdiv rfl rfl,hq,u64_in (by omega) (by omega),u32_in (by omega) (by omega)]
  have w6:(((r * 1000000000 + x:Nat):Int)).tmod (b:Int)=(z:Int):=by rw[IntWalk.up_tmod rfl rfl,hz]
  have hbn:(b:Int)≠0:=by omega
  have hidx:z1n (D++[.blk gr (List.replicate (la.length - i) (.int .u32 0)++qs.map z4m) true false 0, .dead]) 1 (.ob (B + 0) gr 0 la.length) (.int .i64 ((la.length - 1 - i:Nat):Int))=some (.ptr (B + 0) gr (la.length - 1 - i) 0,D++[.blk gr (List.replicate (la.length - i) (.int .u32 0)++qs.map z4m) true false 0, .dead]):=
   q4f (L:=[.blk gr (List.replicate (la.length - i) (.int .u32 0)++qs.map z4m) true false 0, .dead]) (k:=0) hB rfl (q6l hlt) rfl (by omega)
  have hstore:z4y (D++[.blk gr (List.replicate (la.length - i) (.int .u32 0)++qs.map z4m) true false 0, .dead]) 1 (.int .u32 (y:Int)) (.ptr (B + 0) gr (la.length - 1 - i) 0)=some (.undef,D++[.blk gr (List.replicate (la.length - (i + 1)) (.int .u32 0)++(y::qs).map z4m) true false 0, .dead]):=by
   have h:=q0i (K:= .u32) (n:=y) (K':= .u32) (m:=0) (D:=D) (B:=B) (g:=gr) (i:=la.length - 1 - i) (es:=List.replicate (la.length - i) (AV.int .u32 0)++qs.map z4m) (L:=[AObj.blk gr (List.replicate (la.length - i) (AV.int .u32 0)++qs.map z4m) true false 0, .dead]) (k:=0) (w:=false) hB rfl (q6l hlt)
   rw[j1x hlt] at h
   exact h
  have e6:IntKind.i64.wrap (((la.length - 1 - i:Nat):Int) - 1)=(la.length:Int) - ((i + 1:Nat):Int) - 1:=by rw[z0f (by omega) (by omega)];omega
  simp only[go_sem,h0,h1,h6,h7,h8,hB,j4y,e2,hidx0,w1,w2,w3,w4,x3d hbn,q7m hbn,w5,w6,hidx,hstore,e6]
  refine hn (la.length - (i + 1)) _ (by omega) ⟨i + 1,z,y::qs,hlt,rfl,by simp[hql], ?_,hrem, ?_,by simp[z0c,h0],by simp[z0c,h1],by simp[z0c,h6],by simp[z0c],by simp[z0c],rfl⟩
  ·intro c hc
   rw[List.mem_cons] at hc
   rcases hc with rfl | hc
   ·exact hquo
   ·exact hqb c hc
  ·rw[show la.length - (i + 1)=la.length - 1 - i by omega,hdr,z7v]
   have:b * (y + 1000000000 * z7v qs)=b * y + 1000000000 * (b * z7v qs):=by rw[Nat.mul_add,Nat.mul_left_comm]
   rw[this]
   omega
 ·have hin:i=la.length:=by omega
  have e1:decide ((0:Int)≤(la.length:Int) - i - 1)=false:=by rw[decide_eq_false_iff_not];omega
  rw[hin,Nat.sub_self,List.drop_zero] at hw
  have hh:List.replicate (la.length - i) (AV.int .u32 0)++qs.map z4m=qs.map z4m:=by rw[show la.length - i=0 by omega];rfl
  have hq1:z7v la / b=z7v qs:=by
   rw[hw,Nat.add_comm,Nat.add_mul_div_left _ _ hb0,Nat.div_eq_of_lt hr,Nat.zero_add]
  have hq2:z7v la % b=r:=by
   rw[hw,Nat.add_comm,Nat.add_mul_mod_self_left,Nat.mod_eq_of_lt hr]
  have hp1:=j2d (t:= .no) hqb (by omega)
  have hp2:Pure Gam 286 [.sl [.int .u32 (r:Int)] .full] (.sl ((nl r).map z4m) .no):=by
   have:=j2d (l:=[r]) (t:= .full) (by intro x hx;simp at hx;omega) (by simp)
   simpa [z7v,z4m] using this
  have w1:IntKind.u32.wrap (r:Int)=(r:Int):=u32_in (by omega) (by omega)
  have hpa:z1d (D++[.blk gr (qs.map z4m) true false 0, .dead]) [] 0 [.ob (B + 0) gr 0 la.length]=some [.sl (qs.map z4m) .no]:=by
   have:=q1g (L:=[.blk gr (qs.map z4m) true false 0, .dead]) (k:=0) (g:=gr) (w:=false) (len:=la.length) hB rfl (by simp;omega)
   simp only[z4e] at this
   simp only[z1d,List.contains_nil,Bool.false_eq_true,if_false,conv,this,Option.map_some]
  have hfr:freezeAll (D++[.blk gr (qs.map z4m) true false 0, .dead]) (z0p [] 0 [.ob (B + 0) gr 0 la.length])=D++[.blk gr (qs.map z4m) true false la.length, .dead]:=by
   have:=j8n (L:=[.blk gr (qs.map z4m) true false 0, .dead]) (k:=0) (g:=gr) (w:=false) (n:=0 + la.length) hB rfl
   rw[Nat.zero_add] at this
   simpa [z0p,AV.obs] using this
  have hck:∀ {base gg clk dst os ts ks Q},CK Gam base 286 [.ob (B + 0) gr 0 la.length] (D++[.blk gr (qs.map z4m) true false 0, .dead]) clk .plain dst gg os ts ks Q=O Gam base .plain (gg + 1) os ⟨z8c ts dst (.sl ((nl (z7v qs)).map z4m) .no),D++[.blk gr (qs.map z4m) true false la.length, .dead],clk⟩ ks Q:=by
   intro base gg clk dst os ts ks Q
   rw[j2c hp1 rfl y2r rfl rfl hpa (by simp[cvL,AV.cv]) rfl (by simp[idsL,AV.ids,z3s]) (by simp[AV.ids,z3s])]
   rw[hfr]
   rfl
  rw[hh]
  simp only[go_sem,h0,h1,h6,h7,h8,hB,j4y,e1]
  refine he _ _ ?_
  simp only[go_sem,h0,h1,h6,h7,h8,hB,hck,w1,z0a hp2]
  rw[x0p,←hq1,←hq2]
  exact hT _
theorem k3h {l:List Nat} {x:Nat} {h:List AObj} {t:Tip} {k:IntKind} (hl:l=[x]):z1n h 1 (.sl (l.map z4m) t) (.int k 0)=some (.iptr [.int .u32 (x:Int)] 0,h):=by
 subst hl
 exact z2s
theorem w1u {x y:Nat} (hx:(nl x).length≤1000) (hy0:0 < y) (hy:y < 1000000000):Pure Gam 287 [.sl ((nl x).map z4m) .no, .sl ((nl y).map z4m) .no] (.tup [.sl ((nl (x / y)).map z4m) .no, .sl ((nl (x % y)).map z4m) .no]):=by
 have hny:=x5k hy0 hy
 obtain⟨r,hr1,hr2,hp⟩:=w1r (x:=x) (y:=y) hx (by rw[hny];simp)
 have hq:=w1t (la:=nl x) (b:=y) (w1n x) hx hy0 hy
 rw[q4h] at hq
 refine Pure.of rfl u3z rfl rfl rfl (az:=[.sl ((nl x).map z4m) .no, .sl ((nl y).map z4m) .no]) rfl (by simp[idsL,AV.ids,AV.cv,z3s]) fun D B clk T hB hT=> ?_
 by_cases hlt:x < y
 ·have e1:decide (r < 0)=true:=by rw[decide_eq_true_iff];omega
  rw[Nat.div_eq_of_lt hlt,Nat.mod_eq_of_lt hlt,z9b] at hT
  simp only[go_sem,w1b,z0a hp,e1]
  have:= @x0p [] [] (nl x) .nil .no T (D++[.dead, .dead, .dead, .dead])
  simp only[List.map_nil] at this
  rw[this]
  exact hT _
 ·have e1:decide (r < 0)=false:=by rw[decide_eq_false_iff_not];omega
  have e2:decide (((nl y).length:Int)=1)=true:=by rw[hny];rfl
  simp only[go_sem,w1b,z0a hp,e1,List.length_map,e2,k3h hny,z0a hq]
  rw[x0p]
  exact hT _
theorem w1v {x y:Nat} (hx:(nl x).length≤1000) (hy:y < 1000000000):Pure Gam 278 [.sl ((nl x).map z4m) .no, .sl ((nl y).map z4m) .no] (.sl ((nl (Nat.gcd x y)).map z4m) .no):=by
 refine Pure.of rfl u3w rfl rfl rfl (az:=[.sl ((nl x).map z4m) .no, .sl ((nl y).map z4m) .no]) rfl (by simp[idsL,AV.ids,AV.cv,z3s]) fun D B clk T hB hT=> ?_
 simp only[go_sem,y2p]
 refine z1q (fun m q=>∃ x':Nat,m < 1000000000∧(nl x').length≤1000∧Nat.gcd x' m=Nat.gcd x y∧q.ts 0= .sl ((nl x').map z4m) .no∧q.ts 1= .sl ((nl m).map z4m) .no∧q.h=D++[]) y ⟨x,hy,hx,rfl,rfl,rfl,rfl⟩ ?_
 rintro m ⟨ts,h,clk⟩ P ⟨x',hm,hx',hg,h0,h1,rfl⟩ hn he hr
 dsimp only at h0 h1
 rcases Nat.eq_zero_or_pos m with rfl | hpos
 ·have e1:decide ((0:Int) < ((nl 0).length:Int))=false:=by rw[z9b];rfl
  simp only[go_sem,h0,h1,j4x,List.length_map,e1]
  refine he _ _ ?_
  simp only[go_sem,h0]
  rw[x5l]
  rw[Nat.gcd_zero_right] at hg
  rw[hg]
  exact hT _
 ·have hnm:=x5k hpos hm
  have e1:decide ((0:Int) < ((nl m).length:Int))=true:=by rw[hnm];rfl
  simp only[go_sem,h0,h1,j4x,List.length_map,e1,z0a (w1u hx' hpos hm)]
  refine hn (x' % m) _ (Nat.mod_lt _ hpos) ⟨m,Nat.lt_trans (Nat.mod_lt _ hpos) hm,by rw[hnm];simp, ?_,rfl,rfl,rfl⟩
  rw[←hg,Nat.gcd_comm x' m,Nat.gcd_rec m x',Nat.gcd_comm]
end Go.Proofs.YtdfepmffiampgaaGreatDoor.Am
