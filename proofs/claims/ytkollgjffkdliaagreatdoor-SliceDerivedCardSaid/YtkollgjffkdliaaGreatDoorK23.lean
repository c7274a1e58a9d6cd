/- Walking: the reference's magnitudes Decimal digits: comparison, plain facts Walking: magnitudes are compared; rows of the frame Walking: magnitudes are subtracted Walking: magnitudes are divided Walki -/
import Derived.Test.YtkollgjffkdliaaGreatDoorK22
open Bool renaming false_eq_true → j9,not_false → x6,not_true → z8
open Int renaming cast_ofNat_Int → z9,reduceEq → z7,reduceNegSucc → z5,reduceOfNat → z4,toNat_natCast → m7
open List renaming append_assoc → u4,append_nil → w9,cons_append → y6,drop_eq_getElem_cons → b6,drop_zero → u9,exists_cons_of_ne_nil → m9,getElem_mem → x8,length_cons → v5,length_eq_zero_iff → l6,length_pos_iff → l0,length_singleton → v6,mem_append → x4,mem_cons → j6,mem_cons_of_mem → v7,mem_cons_self → j7,mem_singleton → y3,nil_append → y8,replicate → x3,replicate_succ → p8,take_length → b7,take_succ_eq_append_getElem → w7
open Nat renaming add_mul → k9,eq_zero_or_pos → d7,gcd → j8,le_refl → x7,le_trans → j1,mul_comm → u1,mul_le_mul_right → w8,pow_le_pow_right → b9,pow_succ → b8,zero_add → k6
open Option renaming map_some → j5
open Nat renaming reduceBEq → z0,reduceAdd → z1,reduceLeDiff → z2,reduceSub → z3
set_option linter.all false
namespace Go.Proofs.YtkollgjffkdliaaGreatDoor.Am
open Go
noncomputable section
set_option maxRecDepth 100000
def q7f (s:List Nat):Prop:=s≠[]∧∀ c∈s,48≤c∧c≤57
theorem z5s {h:List AObj} {c:Nat} {s:List Nat} {k:IntKind}:q3t h (.str (c::s)) (.int k 0)=some (.int .u8 (c:Int),h):=x7y (i:=0) rfl
theorem q0s {h:List AObj} {s:List Nat} {i:Nat} {k:IntKind} (hi:i < s.length):q3t h (.str s) (.int k (i:Int))=some (.int .u8 (s[i]:Int),h):=x7y (by simp[hi])
theorem q9u {h:List AObj} {c:Nat} {s:List Nat} {k:IntKind}:slV h none (.str (c::s)) (some (.int k 1)) none none=some (.str s,h):=by
 simp[slV,z2v,z4w]
theorem k7j {h:List AObj} {s:List Nat} {i:Nat} {k:IntKind} (hi:i≤s.length):slV h none (.str s) (some (.int k (i:Int))) none none=some (.str (s.drop i),h):=by
 simp[slV,z2v,z4w,hi]
theorem y0o {h:List AObj} {s:List Nat} {i:Nat} {k:IntKind} (hi:i≤s.length):slV h none (.str s) none (some (.int k (i:Int))) none=some (.str (s.take i),h):=by
 simp[slV,z2v,z4w,hi]
theorem z2z {T:List Nat} {s:List Nat} {R:AV→List AObj→Prop} {h:List AObj}:RV T (some [.str s]) R h=R (.str s) h:=z2y rfl rfl
theorem z0e {T:List Nat} {s:Bool} {R:AV→List AObj→Prop} {h:List AObj}:RV T (some [.bool s]) R h=R (.bool s) h:=z2y rfl rfl
theorem z2c {T:List Nat} {k:IntKind} {n:Int} {R:AV→List AObj→Prop} {h:List AObj}:RV T (some [.int k n]) R h=R (.int k n) h:=z2y rfl rfl
theorem q0t {s:List Nat} (hs:q7f s):Pure Gam 208 [.str s] (.str (dec (z1g s))):=by
 refine Pure.of rfl y8f rfl rfl rfl rfl rfl fun D B clk T hB hT=> ?_
 simp only[go_sem,w9r]
 refine z1f (fun m q=>∃ t:List Nat,m=t.length∧q7f t∧z1g t=z1g s∧q.ts 0= .str t∧q.h=D++[]) s.length ⟨s,rfl,hs,rfl,rfl,rfl⟩ ?_
 rintro m ⟨ts,h,clk⟩ P ⟨t,rfl,ht,hw,h0,rfl⟩ hn he hr
 dsimp only at h0
 have fin:w8x t→∀ (ts':Tmps) (clk':Nat),ts' 0= .str t→P (.exit 0) ⟨ts',D++[],clk'⟩:=by
  intro hc ts' clk' q0
  refine he _ _ ?_
  simp only[go_sem,q0]
  rw[z2z]
  have:=k1k hc
  rw[hw] at this
  rw[←this]
  exact hT _
 obtain⟨c,t',rfl⟩:=m9 ht.1
 by_cases hl:t'=[]
 ·subst hl
  simp only[go_sem,h0,x8l,z9,Int.reduceLT,decide_false,k6]
  exact fin ⟨by simp,ht.2,by simp⟩ _ _ (by simp[z0b,h0])
 ·have hpos:0 < t'.length:=l0.2 hl
  have e1:decide ((1:Int) < ((t'.length + 1:Nat):Int))=true:=by rw[r8];omega
  by_cases hc:c=48
  ·subst hc
   simp only[go_sem,h0,x8l,e1,z5s,q9u,decide_true]
   refine hn t'.length _ (by simp) ⟨t',rfl,⟨hl,fun d hd=>ht.2 d (v7 _ hd)⟩, ?_,rfl,rfl⟩
   rw[←hw,z4c];simp
  ·have e2:decide ((c:Int)=48)=false:=by rw[n9];omega
   simp only[go_sem,h0,x8l,e1,z5s,q9u,e2]
   exact fin ⟨by simp,ht.2,fun _=>by simpa using hc⟩ _ _ (by simp[z0b,h0])
theorem q6e {s:List Nat} (hs:q7f s) (hlen:s.length≤100000000):Pure Gam 207 [.str s] (.bool true):=by
 refine Pure.of rfl y8g rfl rfl rfl rfl rfl fun D B clk T hB hT=> ?_
 simp only[go_sem,w9s]
 refine z1f (fun m q=>∃ j:Nat,j≤s.length∧m=s.length - j∧q.ts 0= .str s∧q.ts 3= .int .i64 (j:Int)∧q.h=D++[]) s.length ⟨0,by omega,rfl,rfl,rfl,rfl⟩ ?_
 rintro m ⟨ts,h,clk⟩ P ⟨j,hj,rfl,h0,h3,rfl⟩ hn he hr
 dsimp only at h0 h3
 by_cases hlt:j < s.length
 ·have e1:decide ((j:Int) < (s.length:Int))=true:=by rw[r8];omega
  have hc:=hs.2 s[j] (x8 hlt)
  have e2:decide ((s[j]:Int) < 48)=false:=by rw[n9];omega
  have e3:decide ((57:Int) < (s[j]:Int))=false:=by rw[n9];omega
  have e4:IntKind.i64.wrap ((j:Int) + 1)=((j + 1:Nat):Int):=z0c (by omega) (by omega)
  simp only[go_sem,h0,h3,j3s,e1,q0s hlt,e2,e3,e4]
  exact hn (s.length - (j + 1)) _ (by omega) ⟨j + 1,hlt,rfl,h0,rfl,rfl⟩
 ·have e1:decide ((j:Int) < (s.length:Int))=false:=by rw[n9];omega
  have e2:decide (s=[])=false:=by simp[hs.1]
  simp only[go_sem,h0,h3,j3s,e1]
  refine he _ _ ?_
  simp only[go_sem,h0,h3,e2,x6]
  rw[z0e]
  exact hT _
theorem z4k:∀ {s:List Nat},(∀ c∈s,48≤c∧c≤57)→z1g s < 10 ^ s.length
 | [],_=>by simp[z1g]
 | c::s,h=>by
   have h1:=z4k (s:=s) fun d hd=>h d (v7 _ hd)
   have h2:=h c j7
   rw[z4c,v5,b8]
   have:(c - 48) * 10 ^ s.length≤9 * 10 ^ s.length:=w8 _ (by omega)
   omega
theorem k7k {c:Nat} {s:List Nat} (hc:49≤c):10 ^ s.length≤z1g (c::s):=by
 rw[z4c]
 have:1 * 10 ^ s.length≤(c - 48) * 10 ^ s.length:=w8 _ (by omega)
 omega
theorem q0u:∀ {s t:List Nat},s.length=t.length→(∀ c∈s,48≤c∧c≤57)→(∀ c∈t,48≤c∧c≤57)→z5l s t=decide (z1g s < z1g t)
 | [],[],_,_,_=>by simp[z5l]
 | a::s,b::t,hl,hs,ht=>by
   have hl':s.length=t.length:=by simpa using hl
   have ih:=q0u hl' (fun d hd=>hs d (v7 _ hd)) (fun d hd=>ht d (v7 _ hd))
   have h1:=z4k (s:=s) fun d hd=>hs d (v7 _ hd)
   have h2:=z4k (s:=t) fun d hd=>ht d (v7 _ hd)
   have ha:=hs a j7
   have hb:=ht b j7
   rw[z5l,ih,z4c,z4c,hl']
   rw[hl'] at h1
   rcases Nat.lt_trichotomy a b with h | h | h
   ·have:(a - 48 + 1) * 10 ^ t.length≤(b - 48) * 10 ^ t.length:=w8 _ (by omega)
    rw[k9,Nat.one_mul] at this
    have e1:decide (a < b)=true:=by simp[h]
    rw[e1,Bool.true_or]
    symm
    rw[r8]
    omega
   ·subst h
    simp
   ·have:(b - 48 + 1) * 10 ^ t.length≤(a - 48) * 10 ^ t.length:=w8 _ (by omega)
    rw[k9,Nat.one_mul] at this
    have e1:decide (a < b)=false:=by simp;omega
    have e2:decide (a=b)=false:=by simp;omega
    rw[e1,e2,Bool.false_or,Bool.false_and]
    symm
    rw[n9]
    omega
theorem z6g {a b:Nat} (h:(dec a).length < (dec b).length):a < b:=by
 have h1:=z4k (z1d a)
 rw[z1h] at h1
 rcases d7 b with rfl | hb
 ·have h3:([48]:List Nat).length=1:=rfl
  rw[z9f,h3] at h
  have:=l0.2 (z7d a)
  omega
 ·obtain⟨c,s,hs,hc,_⟩:=j3n hb
  have h2:=k7k (s:=s) hc
  rw[←hs,z1h] at h2
  rw[hs,v5] at h
  have:10 ^ (dec a).length≤10 ^ s.length:=b9 (by omega) (by omega)
  omega
theorem k7l {a b:Nat}:(decide ((dec a).length < (dec b).length) || (decide ((dec a).length=(dec b).length) && z5l (dec a) (dec b)))=decide (a < b):=by
 rcases Nat.lt_trichotomy (dec a).length (dec b).length with h | h | h
 ·have:=z6g h
  simp[h,this]
 ·rw[q0u h (z1d a) (z1d b),z1h,z1h]
  simp[h]
 ·have:=z6g h
  have e1:¬ (dec a).length < (dec b).length:=by omega
  have e2:¬ (dec a).length=(dec b).length:=by omega
  have e3:¬ a < b:=by omega
  simp[e1,e2,e3]
section
theorem k1v {a b:Nat}:Pure Gam 281 [.str (dec a), .str (dec b)] (.int .i64 (if a < b then -1 else if a=b then 0 else 1)):=by
 refine Pure.of rfl y8d rfl rfl rfl rfl rfl fun D B clk T hB hT=> ?_
 have hd:=k7l (a:=a) (b:=b)
 have fin:∀ (n:Int),n=(if a < b then -1 else if a=b then 0 else 1)→T (.int .i64 n) (D++[]):=fun n hn=>hn ▸ hT _
 have key:(decide (((dec a).length:Int) < ((dec b).length:Int))=true∧a < b)∨(decide (((dec a).length:Int) < ((dec b).length:Int))=false∧decide (((dec a).length:Int)=((dec b).length:Int))=true∧z5l (dec a) (dec b)=decide (a < b))∨(decide (((dec a).length:Int) < ((dec b).length:Int))=false∧decide (((dec a).length:Int)=((dec b).length:Int))=false∧b < a):=by
  rcases Nat.lt_trichotomy (dec a).length (dec b).length with h | h | h
  ·exact .inl ⟨by rw[r8];omega,z6g h⟩
  ·refine .inr (.inl ⟨by rw[n9];omega,by rw[r8];omega, ?_⟩)
   rw[q0u h (z1d a) (z1d b),z1h,z1h]
  ·exact .inr (.inr ⟨by rw[n9];omega,by rw[n9];omega,z6g h⟩)
 have heq:decide (dec a=dec b)=decide (a=b):=by
  rw[decide_eq_decide]
  exact⟨q9q,fun h=>h ▸ rfl⟩
 rcases key with ⟨e1,h1⟩ | ⟨e1,e2,e3⟩ | ⟨e1,e2,h1⟩
 ·simp only[go_sem,j7n,e1,z8]
  rw[z2c]
  exact fin _ (by rw[if_pos h1])
 ·rcases Nat.lt_trichotomy a b with h | h | h
  ·have e4:decide (a < b)=true:=by simp[h]
   simp only[go_sem,j7n,e1,e2,e3,e4,x6]
   rw[z2c]
   exact fin _ (by rw[if_pos h])
  ·have e4:decide (a < b)=false:=by simp;omega
   have e5:decide (a=b)=true:=by simp[h]
   simp only[go_sem,j7n,e1,e2,e3,e4,heq,e5,x6]
   rw[z2c]
   exact fin _ (by rw[if_neg (by omega),if_pos h])
  ·have e4:decide (a < b)=false:=by simp;omega
   have e5:decide (a=b)=false:=by simp;omega
   simp only[go_sem,j7n,e1,e2,e3,e4,heq,e5,x6]
   rw[z2c]
   exact fin _ (by rw[if_neg (by omega),if_neg (by omega)])
 ·have e5:decide (a=b)=false:=by simp;omega
  simp only[go_sem,j7n,e1,e2,heq,e5,x6]
  rw[z2c]
  exact fin _ (by rw[if_neg (by omega),if_neg (by omega)])
section
variable {D L:List AObj} {B k g i:Nat} {es:List AV} {w:Bool}
theorem z9y {K K':IntKind} {n m:Int} (hB:D.length=B) (hL:L[k]? =some (.blk g es true w 0)) (hi:es[i]? =some (.int K' m)):z8n (D++L) 1 (.int K n) (.ptr (B + k) g i 0)=some (.undef,D++L.set k (.blk g (es.set i (.int K n)) true w 0)):=by
 have hb:z2f (D++L) (B + k) g=some (es,true,w,0):=by rw[z3n hB];exact z2m hL
 rw[z6f,hb]
 have hp:pub (D++L) (.int K n)=some (.int K n,D++L):=rfl
 simp only[hi,if_true,hp,k0k,q9l,v6,List.all_cons,List.all_nil,k0l,Bool.and_self,true_and,Nat.zero_le,k0z,List.map_nil,List.contains_nil,x6,and_self,implies_true,z7m,q9l,k6,x7,List.take_zero,y8,List.drop_succ_cons,List.drop_nil,w9,j5,x2s,x7z,z2o hB]
theorem q3z {len:Nat} {K:IntKind} {x:AV} (hB:D.length=B) (hL:L[k]? =some (.blk g es true w 0)) (hi:es[i]? =some x) (hx:x.cells=[x]) (hl:i < len):z1v (D++L) 1 (.ob (B + k) g 0 len) (.int K (i:Int))=some (.ptr (B + k) g i 0,D++L):=by
 have hb:z2f (D++L) (B + k) g=some (es,true,w,0):=by rw[z3n hB];exact z2m hL
 simp only[z1v,Int.natCast_nonneg,if_true,hb,m7,k6,hi,hl,hx,v6,and_self]
theorem q6f {len:Nat} (hB:D.length=B) (hL:L[k]? =some (.blk g es true w 0)) (hl:es.length=len):z6k (D++L) (.ob (B + k) g 0 len)=some es:=by
 have hb:z2f (D++L) (B + k) g=some (es,true,w,0):=by rw[z3n hB];exact z2m hL
 simp only[z6k,q3h,hb,k6,hl,x7,if_true,u9]
 rw[List.take_of_length_le (by omega)]
end
def bytes (s:List Nat):List AV:=s.map fun (c:Nat)=> .int .u8 (c:Int)
theorem z6s:∀ {s:List Nat},(∀ c∈s,c < 256)→z6w (bytes s)=some s
 | [],_=>rfl
 | c::s,h=>by
   have ih:=z6s (s:=s) fun d hd=>h d (v7 _ hd)
   have hc:=h c j7
   unfold bytes at ih⊢
   simp only[List.map_cons,z6w,ih,j5,m7]
   rw[if_pos (by omega)]
end
theorem q9v {h:List AObj} {s g b n:Nat} {z:AV} {k j:IntKind} (hz:z.def? =true) (hn:(n:Int) * ((b:Int) + 1)≤2 ^ 46):msV h s g z b (.int k (n:Int)) (.int j (n:Int))=some (.ob s g 0 n,h.set s (.blk g (x3 n z) true false 0)):=by
 have h1:(0≤(n:Int)∧(n:Int)≤n∧(n:Int) * (b + 1)≤(z1e:Int)∧z.def? =true):=by
  refine⟨by omega,by omega, ?_,hz⟩
  simpa [z1e] using hn
 simp only[msV,if_pos h1,m7]
theorem x5a {n i:Nat} {x y:AV} {suf:List AV} (hi:i < n):(x3 (n - i) x++suf).set (n - 1 - i) y=x3 (n - (i + 1)) x++(y::suf):=by
 obtain⟨m,hm⟩:∃ m,n - i=m + 1:=⟨n - i - 1,by omega⟩
 rw[hm,show n - 1 - i=m by omega,show n - (i + 1)=m by omega,List.replicate_succ',u4,List.set_append_right _ _ (by simp)]
 simp
theorem q1r {n i:Nat} {x:AV} {suf:List AV} (hi:i < n):(x3 (n - i) x++suf)[n - 1 - i]? =some x:=by
 rw[List.getElem?_append_left (by simp;omega),List.getElem?_replicate,if_pos (by omega)]
theorem q6g {A:List Nat} {i:Nat} (hi:i < A.length):z1g (A.drop (A.length - (i + 1)))=(A[A.length - 1 - i] - 48) * 10 ^ i + z1g (A.drop (A.length - i)):=by
 have h1:A.drop (A.length - (i + 1))=A[A.length - 1 - i]::A.drop (A.length - i):=by
  rw[b6 (by omega)]
  congr 2 <;> omega
 rw[h1,z4c,List.length_drop,show A.length - (A.length - i)=i by omega]
theorem q2r {c:Nat} (h:48≤c∧c≤57):IntKind.u8.wrap ((c:Int) - 48)=((c - 48:Nat):Int):=by rw[IntWalk.u8_in _ (by omega)];omega
theorem j0z {a b:Nat} (hba:b≤a) (hlen:(dec a).length≤50000100) (hlenb:(dec b).length≤50000100):Pure Gam 282 [.str (dec a), .str (dec b)] (.str (dec (a - b))):=by
 refine Pure.of rfl y8e rfl rfl rfl rfl rfl fun D B clk T hB hT=> ?_
 have hda:=z1d a
 have hdb:=z1d b
 have hna:dec a≠[]:=z7d a
 have hlab:(dec b).length≤(dec a).length:=Classical.byContradiction fun h=>by
  have:=z6g (a:=a) (b:=b) (by omega)
  omega
 have hwa:=z1h a
 have hwb:=z1h b
 generalize hA:dec a=A at *
 generalize hBb:dec b=C at *
 simp only[go_sem,w9q,hB,q9v (z:= .int .u8 0) (n:=A.length) (b:=1) rfl (by omega)]
 refine z1f (fun m q=>∃ (i r:Nat) (suf:List Nat) (gr:Nat),i≤A.length∧m=A.length - i∧suf.length=i∧(∀ c∈suf,48≤c∧c≤57)∧r≤1∧z1g suf + z1g (C.drop (C.length - i)) + 0=z1g (A.drop (A.length - i)) + r * 10 ^ i∧
  q.ts 0= .str A∧q.ts 1= .str C∧q.ts 5= .ob (B + 0) gr 0 A.length∧q.ts 6= .int .i64 (r:Int)∧q.ts 7= .int .i64 (i:Int)∧q.h=D++[.blk gr (x3 (A.length - i) (.int .u8 0)++bytes suf) true false 0]) A.length ?_ ?_
 ·refine⟨0,0,[],_,by omega,rfl,rfl,by simp,by omega,by simp[z1g],rfl,rfl,rfl,rfl,rfl,by simp[bytes]⟩
 rintro m ⟨ts,h,clk⟩ P ⟨i,r,suf,gr,hi,rfl,hsl,hsd,hr1,hw,h0,h1,h5,h6,h7,rfl⟩ hn he hr
 dsimp only at h0 h1 h5 h6 h7
 by_cases hlt:i < A.length
 ·have e1:decide ((i:Int) < (A.length:Int))=true:=by rw[r8];omega
  have ea:IntKind.i64.wrap (IntKind.i64.wrap ((A.length:Int) - 1) - (i:Int))=((A.length - 1 - i:Nat):Int):=by rw[z0c (n:=(A.length:Int) - 1) (by omega) (by omega),z0c (by omega) (by omega)];omega
  have hia:A.length - 1 - i < A.length:=by omega
  have hca:=hda _ (x8 hia)
  have hdig:=q6g hlt
  generalize hc:A[A.length - 1 - i]=c at hca hdig
  have hixa:∀ h,q3t h (.str A) (.int .i64 ((A.length - 1 - i:Nat):Int))=some (.int .u8 (c:Int),h):=fun h=>by rw[q0s hia,hc]
  have ec:=q2r hca
  have ei:IntKind.i64.wrap ((i:Int) + 1)=((i + 1:Nat):Int):=z0c (by omega) (by omega)
  have ec2:IntKind.i64.wrap ((c - 48:Nat):Int)=((c - 48:Nat):Int):=z0c (by omega) (by omega)
  have fin:∀ (s:Int) (d:Nat),d≤9→s=((c - 48:Nat):Int) - r - (d:Int)→z1g (C.drop (C.length - (i + 1)))=d * 10 ^ i + z1g (C.drop (C.length - i))→
    ∀ (r':Nat) (e:Nat),((s < 0∧r'=1∧(e:Int)=s + 10)∨(0≤s∧r'=0∧(e:Int)=s))→∀ (ts':Tmps) (clk':Nat),ts' 0= .str A→ts' 1= .str C→ts' 5= .ob (B + 0) gr 0 A.length→ts' 6= .int .i64 (r':Int)→ts' 7= .int .i64 ((i + 1:Nat):Int)→P .norm ⟨ts',D++[.blk gr (x3 (A.length - (i + 1)) (.int .u8 0)++bytes ((48 + e)::suf)) true false 0],clk'⟩:=by
   intro s d hd hs hcd r' e hre ts' clk' q0 q1 q5 q6 q7
   refine hn (A.length - (i + 1)) _ (by omega) ⟨i + 1,r',(48 + e)::suf,gr,hlt,rfl,by simp[hsl], ?_,by omega, ?_,q0,q1,q5,q6,q7,rfl⟩
   ·intro c' hc'
    rw[j6] at hc'
    rcases hc' with rfl | hc'
    ·omega
    ·exact hsd c' hc'
   ·rw[z4c,hsl,hcd,hdig,b8,Nat.add_sub_cancel_left]
    have hx:e + d + r=(c - 48) + r' * 10:=by omega
    have:=congrArg (· * 10 ^ i) hx
    simp only[k9] at this
    rw[Nat.mul_assoc] at this
    rw[u1 (10 ^ i) 10]
    omega
  have hstore:∀ (g':Nat) (x:Int),z8n (D++[.blk g' (x3 (A.length - i) (.int .u8 0)++bytes suf) true false 0]) 1 (.int .u8 x) (.ptr (B + 0) g' (A.length - 1 - i) 0)=some (.undef,D++[.blk g' (x3 (A.length - (i + 1)) (.int .u8 0)++(.int .u8 x::bytes suf)) true false 0]):=fun g' x=>by
   have h:=z9y (K:= .u8) (n:=x) (K':= .u8) (m:=0) (D:=D) (B:=B) (g:=g') (i:=A.length - 1 - i) (es:=x3 (A.length - i) (AV.int .u8 0)++bytes suf) (L:=[AObj.blk g' (x3 (A.length - i) (AV.int .u8 0)++bytes suf) true false 0]) (k:=0) (w:=false) hB rfl (q1r hlt)
   rw[x5a hlt] at h
   exact h
  have hidx:∀ (g':Nat),z1v (D++[.blk g' (x3 (A.length - i) (.int .u8 0)++bytes suf) true false 0]) 1 (.ob (B + 0) g' 0 A.length) (.int .i64 ((A.length - 1 - i:Nat):Int))=some (.ptr (B + 0) g' (A.length - 1 - i) 0,D++[.blk g' (x3 (A.length - i) (.int .u8 0)++bytes suf) true false 0]):=fun g'=>
   q3z (L:=[.blk g' (x3 (A.length - i) (.int .u8 0)++bytes suf) true false 0]) (k:=0) hB rfl (q1r hlt) rfl (by omega)
  have e8:∀ e:Nat,e≤9→IntKind.u8.wrap (IntKind.i64.wrap (48 + (e:Int)))=((48 + e:Nat):Int):=fun e h=>by rw[z0c (by omega) (by omega),IntWalk.u8_in _ (by omega)];omega
  have hsub1:IntKind.i64.wrap (((c - 48:Nat):Int) - (r:Int))=((c - 48:Nat):Int) - (r:Int):=z0c (by omega) (by omega)
  by_cases hib:i < C.length
  ·have e2:decide ((i:Int) < (C.length:Int))=true:=by rw[r8];omega
   have eb:IntKind.i64.wrap (IntKind.i64.wrap ((C.length:Int) - 1) - (i:Int))=((C.length - 1 - i:Nat):Int):=by rw[z0c (n:=(C.length:Int) - 1) (by omega) (by omega),z0c (by omega) (by omega)];omega
   have hic:C.length - 1 - i < C.length:=by omega
   have hcc:=hdb _ (x8 hic)
   have hdigb:=q6g hib
   generalize hc2:C[C.length - 1 - i]=d at hcc hdigb
   have hixb:∀ h,q3t h (.str C) (.int .i64 ((C.length - 1 - i:Nat):Int))=some (.int .u8 (d:Int),h):=fun h=>by rw[q0s hic,hc2]
   have ed:=q2r hcc
   have ed2:IntKind.i64.wrap ((d - 48:Nat):Int)=((d - 48:Nat):Int):=z0c (by omega) (by omega)
   have hsub2:IntKind.i64.wrap (((c - 48:Nat):Int) - (r:Int) - ((d - 48:Nat):Int))=((c - 48:Nat):Int) - (r:Int) - ((d - 48:Nat):Int):=z0c (by omega) (by omega)
   have fin':=fin (((c - 48:Nat):Int) - r - ((d - 48:Nat):Int)) (d - 48) (by omega) rfl hdigb
   by_cases hneg:((c - 48:Nat):Int) - (r:Int) - ((d - 48:Nat):Int) < 0
   ·have e3:decide (((c - 48:Nat):Int) - (r:Int) - ((d - 48:Nat):Int) < 0)=true:=by rw[r8];exact hneg
    obtain⟨e,he2⟩:∃ e:Nat,(e:Int)=((c - 48:Nat):Int) - (r:Int) - ((d - 48:Nat):Int) + 10:=⟨(((c - 48:Nat):Int) - (r:Int) - ((d - 48:Nat):Int) + 10).toNat,by omega⟩
    have e4:IntKind.i64.wrap (((c - 48:Nat):Int) - (r:Int) - ((d - 48:Nat):Int) + 10)=(e:Int):=by rw[z0c (by omega) (by omega)];omega
    simp only[go_sem,h0,h1,h5,h6,h7,q9t,hB,e1,ea,hixa,ec,ec2,hsub1,e2,eb,hixb,ed,ed2,hsub2,e3,e4,e8 e (by omega),hidx,hstore,ei]
    exact fin' 1 e (.inl ⟨hneg,rfl,he2⟩) _ _ (by simp[z0b,h0]) (by simp[z0b,h1]) (by simp[z0b,h5]) (by simp[z0b]) (by simp[z0b])
   ·have e3:decide (((c - 48:Nat):Int) - (r:Int) - ((d - 48:Nat):Int) < 0)=false:=by rw[n9];exact hneg
    obtain⟨e,he2⟩:∃ e:Nat,((c - 48:Nat):Int) - (r:Int) - ((d - 48:Nat):Int)=(e:Int):=⟨(((c - 48:Nat):Int) - (r:Int) - ((d - 48:Nat):Int)).toNat,by omega⟩
    rw[he2] at e3
    have hsub2:=hsub2.trans he2
    simp only[go_sem,h0,h1,h5,h6,h7,q9t,hB,e1,ea,hixa,ec,ec2,hsub1,e2,eb,hixb,ed,ed2,hsub2,e3,e8 e (by omega),hidx,hstore,ei]
    exact fin' 0 e (.inr ⟨by omega,rfl,he2.symm⟩) _ _ (by simp[z0b,h0]) (by simp[z0b,h1]) (by simp[z0b,h5]) (by simp[z0b]) (by simp[z0b])
  ·have e2:decide ((i:Int) < (C.length:Int))=false:=by rw[n9];omega
   have fin':=fin (((c - 48:Nat):Int) - r) 0 (by omega) (by omega) (by rw[show C.length - (i + 1)=0 by omega,show C.length - i=0 by omega];omega)
   by_cases hneg:((c - 48:Nat):Int) - (r:Int) < 0
   ·have e3:decide (((c - 48:Nat):Int) - (r:Int) < 0)=true:=by rw[r8];exact hneg
    obtain⟨e,he2⟩:∃ e:Nat,(e:Int)=((c - 48:Nat):Int) - (r:Int) + 10:=⟨(((c - 48:Nat):Int) - (r:Int) + 10).toNat,by omega⟩
    have e4:IntKind.i64.wrap (((c - 48:Nat):Int) - (r:Int) + 10)=(e:Int):=by rw[z0c (by omega) (by omega)];omega
    simp only[go_sem,h0,h1,h5,h6,h7,q9t,hB,e1,ea,hixa,ec,ec2,hsub1,e2,e3,e4,e8 e (by omega),hidx,hstore,ei]
    exact fin' 1 e (.inl ⟨hneg,rfl,he2⟩) _ _ (by simp[z0b,h0]) (by simp[z0b,h1]) (by simp[z0b,h5]) (by simp[z0b]) (by simp[z0b])
   ·have e3:decide (((c - 48:Nat):Int) - (r:Int) < 0)=false:=by rw[n9];exact hneg
    obtain⟨e,he2⟩:∃ e:Nat,((c - 48:Nat):Int) - (r:Int)=(e:Int):=⟨(((c - 48:Nat):Int) - (r:Int)).toNat,by omega⟩
    rw[he2] at e3
    have hsub1:=hsub1.trans he2
    simp only[go_sem,h0,h1,h5,h6,h7,q9t,hB,e1,ea,hixa,ec,ec2,hsub1,e2,e3,e8 e (by omega),hidx,hstore,ei]
    exact fin' 0 e (.inr ⟨by omega,rfl,he2.symm⟩) _ _ (by simp[z0b,h0]) (by simp[z0b,h1]) (by simp[z0b,h5]) (by simp[z0b]) (by simp[z0b])
 ·have hiA:i=A.length:=by omega
  have e1:decide ((i:Int) < (A.length:Int))=false:=by rw[n9];omega
  have hwl:=z4k hsd
  have hr0:r=0:=Classical.byContradiction fun h=>by
   have:r=1:=by omega
   subst this
   rw[hiA,Nat.sub_self,u9,show C.length - A.length=0 by omega,u9,hwa,hwb] at hw
   rw[hsl,hiA] at hwl
   omega
  have hws:z1g suf=a - b:=by
   rw[hiA,Nat.sub_self,u9,show C.length - A.length=0 by omega,u9,hwa,hwb,hr0] at hw
   omega
  have hsne:suf≠[]:=fun h=>hna (l6.1 (by rw[←hiA,←hsl,h];rfl))
  simp only[go_sem,h0,h1,h5,h6,h7,q9t,e1]
  refine he _ _ ?_
  have hof:k4k (D++[.blk gr (x3 (A.length - i) (.int .u8 0)++bytes suf) true false 0]) (.ob (B + 0) gr 0 A.length)=some (.str suf,D++[.blk gr (x3 (A.length - i) (.int .u8 0)++bytes suf) true false 0]):=by
   have hs:=q6f (B:=B) (D:=D) (L:=[.blk gr (x3 (A.length - i) (.int .u8 0)++bytes suf) true false 0]) (k:=0) (g:=gr) (len:=A.length) hB rfl (by simp[bytes,hsl];omega)
   simp only[k4k,hs,Option.bind_some]
   rw[show A.length - i=0 by omega,List.replicate_zero,y8,z6s fun c hc=>by have:=hsd c hc;omega]
   rfl
  simp only[go_sem,h5,hof]
  rw[z0a (q0t ⟨hsne,hsd⟩),hws]
  simp only[go_sem,]
  rw[z2z]
  exact hT _
theorem k7m {B clk r b:Nat} {D:List AObj} {o:AObj} {ts:Tmps} {ks:List Kf} {Q:Post} (hb:0 < b) (hr:r < 10 * b) (hl:(dec r).length≤50000100) (hlb:(dec b).length≤50000100) (h1:ts 1= .str (dec b)) (h7:ts 7= .str (dec r)) (h9:ts 9= .int .u8 48)
  (hQ:∀ (ts':Tmps) (clk':Nat),ts' 0=ts 0→ts' 1=ts 1→ts' 6=ts 6→ts' 8=ts 8→ts' 7= .str (dec (r % b))→ts' 9= .int .u8 ((48 + r / b:Nat):Int)→K Gam B (.exit 2) ks ⟨ts',D++[o],clk'⟩ Q):
  K Gam B (.loop x2u) ks ⟨ts,D++[o],clk⟩ Q:=by
 refine z1f (fun m q=>∃ (x d:Nat),m=x∧r=x + d * b∧d≤9∧(dec x).length≤50000100∧q.ts 0=ts 0∧q.ts 1=ts 1∧q.ts 6=ts 6∧q.ts 8=ts 8∧q.ts 7= .str (dec x)∧q.ts 9= .int .u8 ((48 + d:Nat):Int)∧q.h=D++[o]) r ⟨r,0,rfl,by omega,by omega,hl,rfl,rfl,rfl,rfl,h7,h9,rfl⟩ ?_
 rintro m ⟨ts2,h,clk⟩ P ⟨x,d,rfl,hx,hd,hlx,q0,q1,q6,q8,q7,q9,rfl⟩ hn he hret
 dsimp only at q0 q1 q6 q8 q7 q9
 rw[h1] at q1
 have hcmp:=k1v (a:=m) (b:=b)
 by_cases hlt:m < b
 ·rw[if_pos hlt] at hcmp
  simp only[go_sem,q1,q7,q9,x2u]
  rw[z0a hcmp]
  simp only[go_sem,Int.reduceLE,decide_false]
  refine he _ _ ?_
  have e1:r % b=m:=by rw[hx,Nat.add_mul_mod_self_right,Nat.mod_eq_of_lt hlt]
  have e2:r / b=d:=by rw[hx,Nat.add_mul_div_right _ _ hb,Nat.div_eq_of_lt hlt,k6]
  exact hQ _ _ (by simp[z0b,q0]) (by simp[z0b,q1,h1]) (by simp[z0b,q6]) (by simp[z0b,q8]) (by simp[z0b,q7,e1]) (by simp[z0b,q9,e2])
 ·have hge:∃ n:Int,(if m < b then -1 else if m=b then 0 else 1)=n∧0≤n:=by
   rw[if_neg hlt]
   split
   ·exact⟨0,rfl,by omega⟩
   ·exact⟨1,rfl,by omega⟩
  obtain⟨n,hn1,hn2⟩:=hge
  rw[hn1] at hcmp
  have e1:decide (0≤n)=true:=by rw[r8];exact hn2
  have hd9:d + 1≤9:=by
   have:d * b + b≤r:=by omega
   rcases Nat.lt_or_ge d 9 with h | h
   ·omega
   ·have:9 * b≤d * b:=w8 _ h
    omega
  have e2:IntKind.u8.wrap (((48 + d:Nat):Int) + 1)=((48 + (d + 1):Nat):Int):=by rw[IntWalk.u8_in _ (by omega)];omega
  simp only[go_sem,q1,q7,q9,x2u]
  rw[z0a hcmp]
  simp only[go_sem,e1,q1,q7]
  rw[z0a (j0z (by omega) hlx hlb)]
  simp only[go_sem,q9,e2]
  have hlx':(dec (m - b)).length≤50000100:=Classical.byContradiction fun h=>by
   have:=z6g (a:=m) (b:=m - b) (by omega)
   omega
  exact hn (m - b) _ (by omega) ⟨m - b,d + 1,rfl,by rw[k9,Nat.one_mul];omega,hd9,hlx',q0,by rw[h1];exact q1,q6,q8,rfl,rfl,rfl⟩
theorem z9z {A:List Nat} {i:Nat} (hi:i < A.length):z1g (A.take (i + 1))=10 * z1g (A.take i) + (A[i] - 48):=by
 rw[w7 hi,z9x]
theorem j3z {n i:Nat} {x:AV} {suf:List AV} (hl:suf.length=i) (hi:i < n):(suf++x3 (n - i) x)[i]? =some x:=by
 rw[List.getElem?_append_right (by omega),List.getElem?_replicate,if_pos (by omega)]
theorem k7n {n i:Nat} {x y:AV} {suf:List AV} (hl:suf.length=i) (hi:i < n):(suf++x3 (n - i) x).set i y=(suf++[y])++x3 (n - (i + 1)) x:=by
 obtain⟨m,hm⟩:∃ m,n - i=m + 1:=⟨n - i - 1,by omega⟩
 rw[hm,show n - (i + 1)=m by omega,p8,List.set_append_right _ _ (by omega),hl,Nat.sub_self,List.set_cons_zero,u4]
 rfl
theorem j7o {s:List Nat} {c:Nat}:bytes s++[.int .u8 (c:Int)]=bytes (s++[c]):=by simp[bytes]
theorem q5e {s:List Nat}:(bytes s).length=s.length:=by simp[bytes]
theorem x5b {a b:Nat} (hb:0 < b) (hlen:(dec a).length≤50000000) (hlenb:(dec b).length≤50000000):Pure Gam 278 [.str (dec a), .str (dec b)] (.tup [.str (dec (a / b)), .str (dec (a % b))]):=by
 refine Pure.of rfl y8b rfl rfl rfl rfl rfl fun D B clk T hB hT=> ?_
 have hda:=z1d a
 have hna:dec a≠[]:=z7d a
 have hwa:=z1h a
 generalize hA:dec a=A at *
 simp only[go_sem,w9o,hB,q9v (z:= .int .u8 0) (n:=A.length) (b:=1) rfl (by omega)]
 refine z1f (fun m q=>∃ (i:Nat) (qs:List Nat) (gr:Nat),i≤A.length∧m=A.length - i∧qs.length=i∧(∀ c∈qs,48≤c∧c≤57)∧z1g qs=z1g (A.take i) / b∧
  q.ts 0= .str A∧q.ts 1= .str (dec b)∧q.ts 6= .ob (B + 0) gr 0 A.length∧q.ts 7= .str (dec (z1g (A.take i) % b))∧q.ts 8= .int .i64 (i:Int)∧q.h=D++[.blk gr (bytes qs++x3 (A.length - i) (.int .u8 0)) true false 0]) A.length ?_ ?_
 ·refine⟨0,[],_,by omega,rfl,rfl,by simp,by simp[z1g],rfl,rfl,rfl, ?_,rfl,by simp[bytes]⟩
  simp[z0b,z1g,z9f]
 rintro m ⟨ts,h,clk⟩ P ⟨i,qs,gr,hi,rfl,hql,hqd,hqw,h0,h1,h6,h7,h8,rfl⟩ hn he hr
 dsimp only at h0 h1 h6 h7 h8
 have hrb:z1g (A.take i) % b < b:=Nat.mod_lt _ hb
 by_cases hlt:i < A.length
 ·have e1:decide ((i:Int) < (A.length:Int))=true:=by rw[r8];omega
  have ei:IntKind.i64.wrap ((i:Int) + 1)=((i + 1:Nat):Int):=z0c (by omega) (by omega)
  have hc:=hda A[i] (x8 hlt)
  have hsl:∀ h,slV h none (.str A) (some (.int .i64 (i:Int))) (some (.int .i64 ((i + 1:Nat):Int))) none=some (.str [A[i]],h):=fun h=>by
   have:((A.take (i + 1)).drop i)=[A[i]]:=by
    rw[w7 hlt,List.drop_append_of_le_length (by simp;omega)]
    simp
   have hle:i + 1≤A.length:=hlt
   simp only[slV,z2v,z4w,Int.natCast_nonneg,if_true,m7,hle,and_true,Nat.le_add_right,this,j5]
  generalize hR:z1g (A.take i) % b=R at *
  have hRl:(dec R).length≤50000000:=Classical.byContradiction fun h=>by
   have:=z6g (a:=b) (b:=R) (by omega)
   omega
  have hdig:q7f (dec R++[A[i]]):=⟨by simp,fun c hc'=>by
   rw[x4,y3] at hc'
   rcases hc' with h | rfl
   ·exact z1d R c h
   ·exact hc⟩
  have hwr:z1g (dec R++[A[i]])=10 * R + (A[i] - 48):=by rw[z9x,z1h]
  have hrl2:(dec (10 * R + (A[i] - 48))).length≤50000100:=by
   have h1:=z4k (z1d R)
   rw[z1h] at h1
   exact j1 (z6q (k:=(dec R).length + 1) (by omega) (by rw[b8];omega)) (by omega)
  simp only[go_sem,h0,h1,h6,h7,h8,j3q,e1,ei,hsl,q9k (a:=dec R) (b:=[A[i]]) (by simp;omega)]
  rw[z0a (q0t hdig),hwr]
  simp only[go_sem,]
  refine k7m hb (by omega) hrl2 (by omega) (by simp[z0b,h1]) rfl rfl ?_
  intro ts2 clk2 q0 q1 q6 q8 q7 q9
  simp only[z0b,z0,cond_true,cond_false,h0,h1,h6,h8] at q0 q1 q6 q8
  have hqd9:(10 * R + (A[i] - 48)) / b≤9:=by
   rw[Nat.div_le_iff_le_mul_add_pred hb];omega
  have hbl:(bytes qs).length=i:=by rw[q5e,hql]
  have hstore:∀ (x:Nat),z8n (D++[.blk gr (bytes qs++x3 (A.length - i) (.int .u8 0)) true false 0]) 1 (.int .u8 (x:Int)) (.ptr (B + 0) gr i 0)=some (.undef,D++[.blk gr (bytes (qs++[x])++x3 (A.length - (i + 1)) (.int .u8 0)) true false 0]):=fun x=>by
   have h:=z9y (K:= .u8) (n:=x) (K':= .u8) (m:=0) (D:=D) (B:=B) (g:=gr) (i:=i) (es:=bytes qs++x3 (A.length - i) (AV.int .u8 0)) (L:=[AObj.blk gr (bytes qs++x3 (A.length - i) (AV.int .u8 0)) true false 0]) (k:=0) (w:=false) hB rfl (j3z hbl hlt)
   rw[k7n hbl hlt,j7o] at h
   exact h
  have hidx:z1v (D++[.blk gr (bytes qs++x3 (A.length - i) (.int .u8 0)) true false 0]) 1 (.ob (B + 0) gr 0 A.length) (.int .i64 (i:Int))=some (.ptr (B + 0) gr i 0,D++[.blk gr (bytes qs++x3 (A.length - i) (.int .u8 0)) true false 0]):=
   q3z (L:=[.blk gr (bytes qs++x3 (A.length - i) (.int .u8 0)) true false 0]) (k:=0) hB rfl (j3z hbl hlt) rfl (by omega)
  simp only[go_sem,q0,q1,q6,q8,q7,q9,hidx,hstore,ei]
  have hWA:z1g (A.take i)=b * z1g qs + R:=by rw[hqw,←hR];exact (Nat.div_add_mod _ _).symm
  have e10:10 * z1g (A.take i) + (A[i] - 48)=(10 * R + (A[i] - 48)) + b * (10 * z1g qs):=by
   rw[hWA,Nat.mul_add,←Nat.mul_assoc,u1 10 b,Nat.mul_assoc]
   omega
  refine hn (A.length - (i + 1)) _ (by omega) ⟨i + 1,qs++[48 + (10 * R + (A[i] - 48)) / b],gr,hlt,rfl,by simp[hql], ?_, ?_,by simp[z0b,q0],by simp[z0b,q1],by simp[z0b,q6], ?_,by simp[z0b],rfl⟩
  ·intro c hc'
   rw[x4,y3] at hc'
   rcases hc' with h | rfl
   ·exact hqd c h
   ·exact⟨Nat.le_add_right _ _,Nat.add_le_add_left hqd9 48⟩
  ·rw[z9x,z9z hlt,e10,Nat.add_mul_div_left _ _ hb,Nat.add_sub_cancel_left,Nat.add_comm]
  ·rw[z9z hlt,e10,Nat.add_mul_mod_self_left]
   simp[z0b,q7]
 ·have hiA:i=A.length:=by omega
  have e1:decide ((i:Int) < (A.length:Int))=false:=by rw[n9];omega
  rw[hiA,b7,hwa] at hqw h7
  have hqne:qs≠[]:=fun h=>hna (l6.1 (by rw[←hiA,←hql,h];rfl))
  have hof:k4k (D++[.blk gr (bytes qs++x3 (A.length - i) (.int .u8 0)) true false 0]) (.ob (B + 0) gr 0 A.length)=some (.str qs,D++[.blk gr (bytes qs++x3 (A.length - i) (.int .u8 0)) true false 0]):=by
   have hs:=q6f (B:=B) (D:=D) (L:=[.blk gr (bytes qs++x3 (A.length - i) (.int .u8 0)) true false 0]) (k:=0) (g:=gr) (len:=A.length) hB rfl (by simp[bytes,hql];omega)
   simp only[k4k,hs,Option.bind_some]
   rw[show A.length - i=0 by omega,List.replicate_zero,w9,z6s fun c hc=>by have:=hqd c hc;omega]
   rfl
  simp only[go_sem,h0,h1,h6,h7,h8,j3q,e1]
  refine he _ _ ?_
  simp only[go_sem,h0,h1,h6,h7,h8,hof]
  rw[z0a (q0t ⟨hqne,hqd⟩),hqw]
  simp only[go_sem,h7]
  rw[z0h rfl rfl]
  exact hT _
theorem q0a {A:List Nat} {i:Nat} (hd:∀ c∈A,48≤c∧c≤57):∃ d,d≤9∧z1g (A.drop (A.length - (i + 1)))=d * 10 ^ i + z1g (A.drop (A.length - i))∧(i < A.length→∀ h,(q3t h (.str A) (.int .i64 ((A.length - 1 - i:Nat):Int))=some (.int .u8 ((48 + d:Nat):Int),h)))∧(¬ i < A.length→d=0):=by
 by_cases hi:i < A.length
 ·have hia:A.length - 1 - i < A.length:=by omega
  have hca:=hd _ (x8 hia)
  have hdig:=q6g hi
  refine⟨A[A.length - 1 - i] - 48,by omega,hdig,fun _ h=> ?_,fun h=>absurd hi h⟩
  rw[q0s hia,show 48 + (A[A.length - 1 - i] - 48)=A[A.length - 1 - i] by omega]
 ·refine⟨0,by omega, ?_,fun h=>absurd h hi,fun _=>rfl⟩
  rw[show A.length - (i + 1)=0 by omega,show A.length - i=0 by omega]
  omega
theorem k1w {a b:Nat} (hlen:(dec a).length≤50000000) (hlenb:(dec b).length≤50000000):Pure Gam 280 [.str (dec a), .str (dec b)] (.str (dec (a + b))):=by
 refine Pure.of rfl y7b rfl rfl rfl rfl rfl fun D B clk T hB hT=> ?_
 have hda:=z1d a
 have hdb:=z1d b
 have hwa:=z1h a
 have hwb:=z1h b
 generalize hA:dec a=A at *
 generalize hBb:dec b=C at *
 obtain⟨n,hn⟩:∃ n,n=max A.length C.length + 1:=⟨_,rfl⟩
 have hmm:∀ h,mmV h true (.int .i64 (A.length:Int)) (.int .i64 (C.length:Int))=some (.int .i64 ((n - 1:Nat):Int),h):=fun h=>by
  have:(if A.length < C.length then (C.length:Int) else (A.length:Int))=((n - 1:Nat):Int):=by split <;> omega
  simpa [mmV] using this
 have en:IntKind.i64.wrap (((n - 1:Nat):Int) + 1)=(n:Int):=by rw[z0c (by omega) (by omega)];omega
 simp only[go_sem,w8d,hB,hmm,en,q9v (z:= .int .u8 0) (n:=n) (b:=1) rfl (by omega)]
 refine z1f (fun m q=>∃ (i r:Nat) (suf:List Nat) (gr:Nat),i≤n∧m=n - i∧suf.length=i∧(∀ c∈suf,48≤c∧c≤57)∧r≤1∧z1g suf + r * 10 ^ i=z1g (A.drop (A.length - i)) + z1g (C.drop (C.length - i))∧
  q.ts 0= .str A∧q.ts 1= .str C∧q.ts 5= .int .i64 (n:Int)∧q.ts 6= .ob (B + 0) gr 0 n∧q.ts 7= .int .i64 (r:Int)∧q.ts 8= .int .i64 (i:Int)∧q.h=D++[.blk gr (x3 (n - i) (.int .u8 0)++bytes suf) true false 0]) n ?_ ?_
 ·refine⟨0,0,[],_,by omega,rfl,rfl,by simp,by omega,by simp[z1g],rfl,rfl,rfl,rfl,rfl,rfl,by simp[bytes]⟩
 rintro m ⟨ts,h,clk⟩ P ⟨i,r,suf,gr,hi,rfl,hsl,hsd,hr1,hw,h0,h1,h5,h6,h7,h8,rfl⟩ hnx he hr
 dsimp only at h0 h1 h5 h6 h7 h8
 by_cases hlt:i < n
 ·have e1:decide ((i:Int) < (n:Int))=true:=by rw[r8];omega
  obtain⟨x,hx,hxw,hxi,hx0⟩:=q0a (i:=i) hda
  obtain⟨y,hy,hyw,hyi,hy0⟩:=q0a (i:=i) hdb
  have ei:IntKind.i64.wrap ((i:Int) + 1)=((i + 1:Nat):Int):=z0c (by omega) (by omega)
  have ek:IntKind.i64.wrap (IntKind.i64.wrap ((n:Int) - 1) - (i:Int))=((n - 1 - i:Nat):Int):=by rw[z0c (n:=(n:Int) - 1) (by omega) (by omega),z0c (by omega) (by omega)];omega
  have ud:∀ d:Nat,d≤9→IntKind.u8.wrap (((48 + d:Nat):Int) - 48)=(d:Int):=fun d hd=>by rw[IntWalk.u8_in _ (by omega)];omega
  have wd:∀ d:Nat,d≤30→IntKind.i64.wrap (d:Int)=(d:Int):=fun d hd=>z0c (by omega) (by omega)
  have hstore:∀ (g':Nat) (x:Int),z8n (D++[.blk g' (x3 (n - i) (.int .u8 0)++bytes suf) true false 0]) 1 (.int .u8 x) (.ptr (B + 0) g' (n - 1 - i) 0)=some (.undef,D++[.blk g' (x3 (n - (i + 1)) (.int .u8 0)++(.int .u8 x::bytes suf)) true false 0]):=fun g' x=>by
   have h:=z9y (K:= .u8) (n:=x) (K':= .u8) (m:=0) (D:=D) (B:=B) (g:=g') (i:=n - 1 - i) (es:=x3 (n - i) (AV.int .u8 0)++bytes suf) (L:=[AObj.blk g' (x3 (n - i) (AV.int .u8 0)++bytes suf) true false 0]) (k:=0) (w:=false) hB rfl (q1r hlt)
   rw[x5a hlt] at h
   exact h
  have hidx:∀ (g':Nat),z1v (D++[.blk g' (x3 (n - i) (.int .u8 0)++bytes suf) true false 0]) 1 (.ob (B + 0) g' 0 n) (.int .i64 ((n - 1 - i:Nat):Int))=some (.ptr (B + 0) g' (n - 1 - i) 0,D++[.blk g' (x3 (n - i) (.int .u8 0)++bytes suf) true false 0]):=fun g'=>
   q3z (L:=[.blk g' (x3 (n - i) (.int .u8 0)++bytes suf) true false 0]) (k:=0) hB rfl (q1r hlt) rfl (by omega)
  have fin:∀ (ts':Tmps) (clk':Nat),ts' 0= .str A→ts' 1= .str C→ts' 5= .int .i64 (n:Int)→ts' 6= .ob (B + 0) gr 0 n→ts' 7= .int .i64 (((r + x + y) / 10:Nat):Int)→ts' 8= .int .i64 ((i + 1:Nat):Int)→P .norm ⟨ts',D++[.blk gr (x3 (n - (i + 1)) (.int .u8 0)++bytes ((48 + (r + x + y) % 10)::suf)) true false 0],clk'⟩:=by
   intro ts' clk' q0 q1 q5 q6 q7 q8
   refine hnx (n - (i + 1)) _ (by omega) ⟨i + 1,(r + x + y) / 10,(48 + (r + x + y) % 10)::suf,gr,hlt,rfl,by simp[hsl], ?_,by omega, ?_,q0,q1,q5,q6,q7,q8,rfl⟩
   ·intro c' hc'
    rw[j6] at hc'
    rcases hc' with rfl | hc'
    ·omega
    ·exact hsd c' hc'
   ·rw[z4c,hsl,hxw,hyw,b8,Nat.add_sub_cancel_left]
    have hdm:=Nat.div_add_mod (r + x + y) 10
    have:=congrArg (· * 10 ^ i) hdm
    simp only[k9] at this
    rw[u1 (10 ^ i) 10,←Nat.mul_assoc,u1 _ 10]
    omega
  have e3:∀ s:Nat,(s:Int).tmod 10=((s % 10:Nat):Int):=fun s=>by rw[Int.tmod_eq_emod_of_nonneg (by omega)];omega
  have e4:∀ s:Nat,s≤30→IntKind.i64.wrap ((s:Int).tdiv 10)=((s / 10:Nat):Int):=fun s hs=>by rw[IntWalk.i64_quo _ _ ⟨by omega,by omega,by omega⟩];omega
  have e5:∀ s:Nat,IntKind.u8.wrap (IntKind.i64.wrap (48 + ((s % 10:Nat):Int)))=((48 + s % 10:Nat):Int):=fun s=>by rw[z0c (by omega) (by omega),IntWalk.u8_in _ (by omega)];omega
  have es:∀ p q:Nat,p + q≤30→IntKind.i64.wrap ((p:Int) + (q:Int))=((p + q:Nat):Int):=fun p q h=>by rw[z0c (by omega) (by omega)];omega
  by_cases hia:i < A.length
  ·have f1:decide ((i:Int) < (A.length:Int))=true:=by rw[r8];omega
   have ea:IntKind.i64.wrap (IntKind.i64.wrap ((A.length:Int) - 1) - (i:Int))=((A.length - 1 - i:Nat):Int):=by rw[z0c (n:=(A.length:Int) - 1) (by omega) (by omega),z0c (by omega) (by omega)];omega
   by_cases hib:i < C.length
   ·have f2:decide ((i:Int) < (C.length:Int))=true:=by rw[r8];omega
    have eb:IntKind.i64.wrap (IntKind.i64.wrap ((C.length:Int) - 1) - (i:Int))=((C.length - 1 - i:Nat):Int):=by rw[z0c (n:=(C.length:Int) - 1) (by omega) (by omega),z0c (by omega) (by omega)];omega
    simp only[go_sem,h0,h1,h5,h6,h7,h8,q9p,hB,e1,f1,f2,ea,eb,hxi hia,hyi hib,ud x hx,ud y hy,wd x (by omega),wd y (by omega),es r x (by omega),es (r + x) y (by omega),ek,q1d (b:=10) (by decide),q4y (b:=10) (by decide),e3,e4 (r + x + y) (by omega),e5,hidx,hstore,ei]
    exact fin _ _ (by simp[z0b,h0]) (by simp[z0b,h1]) (by simp[z0b,h5]) (by simp[z0b,h6]) (by simp[z0b]) (by simp[z0b])
   ·have f2:decide ((i:Int) < (C.length:Int))=false:=by rw[n9];omega
    obtain rfl:=hy0 hib
    simp only[go_sem,h0,h1,h5,h6,h7,h8,q9p,hB,e1,f1,f2,ea,hxi hia,ud x hx,wd x (by omega),es r x (by omega),ek,q1d (b:=10) (by decide),q4y (b:=10) (by decide),e3,e4 (r + x) (by omega),e5,hidx,hstore,ei]
    exact fin _ _ (by simp[z0b,h0]) (by simp[z0b,h1]) (by simp[z0b,h5]) (by simp[z0b,h6]) (by simp[z0b]) (by simp[z0b])
  ·have f1:decide ((i:Int) < (A.length:Int))=false:=by rw[n9];omega
   obtain rfl:=hx0 hia
   by_cases hib:i < C.length
   ·have f2:decide ((i:Int) < (C.length:Int))=true:=by rw[r8];omega
    have eb:IntKind.i64.wrap (IntKind.i64.wrap ((C.length:Int) - 1) - (i:Int))=((C.length - 1 - i:Nat):Int):=by rw[z0c (n:=(C.length:Int) - 1) (by omega) (by omega),z0c (by omega) (by omega)];omega
    simp only[go_sem,h0,h1,h5,h6,h7,h8,q9p,hB,e1,f1,f2,eb,hyi hib,ud y hy,wd y (by omega),es r y (by omega),ek,q1d (b:=10) (by decide),q4y (b:=10) (by decide),e3,e4 (r + y) (by omega),e5,hidx,hstore,ei]
    exact fin _ _ (by simp[z0b,h0]) (by simp[z0b,h1]) (by simp[z0b,h5]) (by simp[z0b,h6]) (by simp[z0b]) (by simp[z0b])
   ·have f2:decide ((i:Int) < (C.length:Int))=false:=by rw[n9];omega
    obtain rfl:=hy0 hib
    simp only[go_sem,h0,h1,h5,h6,h7,h8,q9p,hB,e1,f1,f2,ek,q1d (b:=10) (by decide),q4y (b:=10) (by decide),e3,e4 r (by omega),e5,hidx,hstore,ei]
    exact fin _ _ (by simp[z0b,h0]) (by simp[z0b,h1]) (by simp[z0b,h5]) (by simp[z0b,h6]) (by simp[z0b]) (by simp[z0b])
 ·have hin:i=n:=by omega
  have e1:decide ((i:Int) < (n:Int))=false:=by rw[n9];omega
  rw[show A.length - i=0 by omega,show C.length - i=0 by omega,u9,u9,hwa,hwb] at hw
  have hr0:r=0:=Classical.byContradiction fun h=>by
   obtain rfl:r=1:=by omega
   have h1:=z4k hda
   have h2:=z4k hdb
   rw[hwa] at h1
   rw[hwb] at h2
   have h3:10 ^ A.length≤10 ^ (n - 1):=b9 (by omega) (by omega)
   have h4:10 ^ C.length≤10 ^ (n - 1):=b9 (by omega) (by omega)
   rw[show i=(n - 1) + 1 by omega,b8] at hw
   omega
  have hws:z1g suf=a + b:=by rw[hr0] at hw;omega
  have hsne:suf≠[]:=fun h=>by rw[h] at hsl;simp at hsl;omega
  simp only[go_sem,h0,h1,h5,h6,h7,h8,q9p,e1]
  refine he _ _ ?_
  have hof:k4k (D++[.blk gr (x3 (n - i) (.int .u8 0)++bytes suf) true false 0]) (.ob (B + 0) gr 0 n)=some (.str suf,D++[.blk gr (x3 (n - i) (.int .u8 0)++bytes suf) true false 0]):=by
   have hs:=q6f (B:=B) (D:=D) (L:=[.blk gr (x3 (n - i) (.int .u8 0)++bytes suf) true false 0]) (k:=0) (g:=gr) (len:=n) hB rfl (by simp[bytes,hsl];omega)
   simp only[k4k,hs,Option.bind_some]
   rw[show n - i=0 by omega,List.replicate_zero,y8,z6s fun c hc=>by have:=hsd c hc;omega]
   rfl
  simp only[go_sem,h6,hof]
  rw[z0a (q0t ⟨hsne,hsd⟩),hws]
  simp only[go_sem,]
  rw[z2z]
  exact hT _
section
open Sh
set_option maxHeartbeats 0
def u3c:AFun:=(fun (a:AFun) (_:Gam.fn 35=some a)=>a) _ (by conv=>lhs;reduce;simp only[z4,z5])
theorem u6j:Gam.fn 35=some u3c:=by kernel_rfl
def q59:AFun:=(fun (a:AFun) (_:Gam.fn 82=some a)=>a) _ (by conv=>lhs;reduce;simp only[z4,z5])
def q7m:ACode:=(fun (a:ACode) (_:fl [] (lp q59 2)=a)=>a) _ (by conv=>lhs;reduce;simp only[z4,z5])
attribute [local irreducible] q7m
def k1x:ACode:=(fun (a:ACode) (_:fl [q7m] (lp q59 1)=a)=>a) _ (by conv=>lhs;reduce;simp only[z4,z5])
attribute [local irreducible] k1x
def k7o:ACode:=(fun (a:ACode) (_:fl [k1x,q7m] (lp q59 0)=a)=>a) _ (by conv=>lhs;reduce;simp only[z4,z5])
attribute [local irreducible] k7o
def u3d:AFun:=(fun (a:AFun) (_:flF [k7o,k1x,q7m] q59=a)=>a) _ (by conv=>lhs;reduce;simp only[z4,z5])
theorem u6k:Gam.fn 82=some u3d:=by kernel_rfl
def u3e:AFun:=(fun (a:AFun) (_:Gam.fn 146=some a)=>a) _ (by conv=>lhs;reduce;simp only[z4,z5])
def j4a:ACode:=(fun (a:ACode) (_:fl [] (lp u3e 0)=a)=>a) _ (by conv=>lhs;reduce;simp only[z4,z5])
attribute [local irreducible] j4a
def y0p:AFun:=(fun (a:AFun) (_:flF [j4a] u3e=a)=>a) _ (by conv=>lhs;reduce;simp only[z4,z5])
theorem y8v:Gam.fn 146=some y0p:=by kernel_rfl
def u3f:AFun:=(fun (a:AFun) (_:Gam.fn 147=some a)=>a) _ (by conv=>lhs;reduce;simp only[z4,z5])
def j4b:ACode:=(fun (a:ACode) (_:fl [] (lp u3f 0)=a)=>a) _ (by conv=>lhs;reduce;simp only[z4,z5])
attribute [local irreducible] j4b
def y0q:AFun:=(fun (a:AFun) (_:flF [j4b] u3f=a)=>a) _ (by conv=>lhs;reduce;simp only[z4,z5])
theorem y8w:Gam.fn 147=some y0q:=by kernel_rfl
def u3g:AFun:=(fun (a:AFun) (_:Gam.fn 148=some a)=>a) _ (by conv=>lhs;reduce;simp only[z4,z5])
def j4c:ACode:=(fun (a:ACode) (_:fl [] (lp u3g 0)=a)=>a) _ (by conv=>lhs;reduce;simp only[z4,z5])
attribute [local irreducible] j4c
def y0r:AFun:=(fun (a:AFun) (_:flF [j4c] u3g=a)=>a) _ (by conv=>lhs;reduce;simp only[z4,z5])
theorem y8x:Gam.fn 148=some y0r:=by kernel_rfl
def y8y:AFun:=(fun (a:AFun) (_:Gam.fn 149=some a)=>a) _ (by conv=>lhs;reduce;simp only[z4,z5])
def q7g:ACode:=(fun (a:ACode) (_:fl [] (lp y8y 1)=a)=>a) _ (by conv=>lhs;reduce;simp only[z4,z5])
attribute [local irreducible] q7g
def x8n:ACode:=(fun (a:ACode) (_:fl [q7g] (lp y8y 0)=a)=>a) _ (by conv=>lhs;reduce;simp only[z4,z5])
attribute [local irreducible] x8n
def y0s:AFun:=(fun (a:AFun) (_:flF [x8n,q7g] y8y=a)=>a) _ (by conv=>lhs;reduce;simp only[z4,z5])
theorem y8z:Gam.fn 149=some y0s:=by kernel_rfl
def y0t:AFun:=(fun (a:AFun) (_:Gam.fn 144=some a)=>a) _ (by conv=>lhs;reduce;simp only[z4,z5])
theorem y9a:Gam.fn 144=some y0t:=by kernel_rfl
def u3h:AFun:=(fun (a:AFun) (_:Gam.fn 213=some a)=>a) _ (by conv=>lhs;reduce;simp only[z4,z5])
def j4d:ACode:=(fun (a:ACode) (_:fl [] (lp u3h 0)=a)=>a) _ (by conv=>lhs;reduce;simp only[z4,z5])
attribute [local irreducible] j4d
def y0u:AFun:=(fun (a:AFun) (_:flF [j4d] u3h=a)=>a) _ (by conv=>lhs;reduce;simp only[z4,z5])
theorem y9b:Gam.fn 213=some y0u:=by kernel_rfl
def w2e:AFun:=(fun (a:AFun) (_:Gam.fn 214=some a)=>a) _ (by conv=>lhs;reduce;simp only[z4,z5])
def q9w:ACode:=(fun (a:ACode) (_:fl [] (lp w2e 4)=a)=>a) _ (by conv=>lhs;reduce;simp only[z4,z5])
attribute [local irreducible] q9w
def q9x:ACode:=(fun (a:ACode) (_:fl [q9w] (lp w2e 3)=a)=>a) _ (by conv=>lhs;reduce;simp only[z4,z5])
attribute [local irreducible] q9x
def j4e:ACode:=(fun (a:ACode) (_:fl [q9x,q9w] (lp w2e 2)=a)=>a) _ (by conv=>lhs;reduce;simp only[z4,z5])
attribute [local irreducible] j4e
def q9y:ACode:=(fun (a:ACode) (_:fl [j4e,q9x,q9w] (lp w2e 1)=a)=>a) _ (by conv=>lhs;reduce;simp only[z4,z5])
attribute [local irreducible] q9y
def x8o:ACode:=(fun (a:ACode) (_:fl [q9y,j4e,q9x,q9w] (lp w2e 0)=a)=>a) _ (by conv=>lhs;reduce;simp only[z4,z5])
attribute [local irreducible] x8o
def y0v:AFun:=(fun (a:AFun) (_:flF [x8o,q9y,j4e,q9x,q9w] w2e=a)=>a) _ (by conv=>lhs;reduce;simp only[z4,z5])
theorem y9c:Gam.fn 214=some y0v:=by kernel_rfl
def k1y:AFun:=(fun (a:AFun) (_:Gam.fn 166=some a)=>a) _ (by conv=>lhs;reduce;simp only[z4,z5])
theorem y0w:Gam.fn 166=some k1y:=by kernel_rfl
def x5c:AFun:=(fun (a:AFun) (_:Gam.fn 266=some a)=>a) _ (by conv=>lhs;reduce;simp only[z4,z5])
theorem y9d:Gam.fn 266=some x5c:=by kernel_rfl
def q1s:AFun:=(fun (a:AFun) (_:Gam.fn 267=some a)=>a) _ (by conv=>lhs;reduce;simp only[z4,z5])
theorem y9e:Gam.fn 267=some q1s:=by kernel_rfl
def q1t:AFun:=(fun (a:AFun) (_:Gam.fn 268=some a)=>a) _ (by conv=>lhs;reduce;simp only[z4,z5])
theorem y9f:Gam.fn 268=some q1t:=by kernel_rfl
def u3i:AFun:=(fun (a:AFun) (_:Gam.fn 302=some a)=>a) _ (by conv=>lhs;reduce;simp only[z4,z5])
def j4f:ACode:=(fun (a:ACode) (_:fl [] (lp u3i 0)=a)=>a) _ (by conv=>lhs;reduce;simp only[z4,z5])
attribute [local irreducible] j4f
def y0x:AFun:=(fun (a:AFun) (_:flF [j4f] u3i=a)=>a) _ (by conv=>lhs;reduce;simp only[z4,z5])
theorem y9g:Gam.fn 302=some y0x:=by kernel_rfl
def v8z:AFun:=(fun (a:AFun) (_:Gam.fn 303=some a)=>a) _ (by conv=>lhs;reduce;simp only[z4,z5])
theorem y9h:Gam.fn 303=some v8z:=by kernel_rfl
def y0y:AFun:=(fun (a:AFun) (_:Gam.fn 169=some a)=>a) _ (by conv=>lhs;reduce;simp only[z4,z5])
theorem y9i:Gam.fn 169=some y0y:=by kernel_rfl
def u3j:AFun:=(fun (a:AFun) (_:Gam.fn 170=some a)=>a) _ (by conv=>lhs;reduce;simp only[z4,z5])
def j4g:ACode:=(fun (a:ACode) (_:fl [] (lp u3j 0)=a)=>a) _ (by conv=>lhs;reduce;simp only[z4,z5])
attribute [local irreducible] j4g
def y0z:AFun:=(fun (a:AFun) (_:flF [j4g] u3j=a)=>a) _ (by conv=>lhs;reduce;simp only[z4,z5])
theorem y9j:Gam.fn 170=some y0z:=by kernel_rfl
def k7p:AFun:=(fun (a:AFun) (_:Gam.fn 164=some a)=>a) _ (by conv=>lhs;reduce;simp only[z4,z5])
theorem v9a:Gam.fn 164=some k7p:=by kernel_rfl
def v9b:AFun:=(fun (a:AFun) (_:Gam.fn 102=some a)=>a) _ (by conv=>lhs;reduce;simp only[z4,z5])
theorem y1a:Gam.fn 102=some v9b:=by kernel_rfl
def y1b:AFun:=(fun (a:AFun) (_:Gam.fn 171=some a)=>a) _ (by conv=>lhs;reduce;simp only[z4,z5])
theorem y9k:Gam.fn 171=some y1b:=by kernel_rfl
def q82:AFun:=(fun (a:AFun) (_:Gam.fn 106=some a)=>a) _ (by conv=>lhs;reduce;simp only[z4,z5])
def k1z:ACode:=(fun (a:ACode) (_:fl [] (lp q82 0)=a)=>a) _ (by conv=>lhs;reduce;simp only[z4,z5])
attribute [local irreducible] k1z
def u3k:AFun:=(fun (a:AFun) (_:flF [k1z] q82=a)=>a) _ (by conv=>lhs;reduce;simp only[z4,z5])
theorem u6l:Gam.fn 106=some u3k:=by kernel_rfl
end
theorem z4o {a b:Nat} (h:a≤b):(dec a).length≤(dec b).length:=Classical.byContradiction fun hc=>by
 have:=z6g (a:=b) (b:=a) (by omega)
 omega
theorem z1o {n:Nat}:decide (dec n=[48])=decide (n=0):=by rw[decide_eq_decide];exact q3w
theorem q2s {n:Nat}:decide (dec n=[49])=decide (n=1):=by rw[decide_eq_decide];exact x2t
theorem v9c {a b:Nat} (hlen:(dec a).length≤50000000) (hlenb:(dec b).length≤50000000):Pure Gam 277 [.str (dec a), .str (dec b)] (.str (dec (j8 a b))):=by
 refine Pure.of rfl y7z rfl rfl rfl rfl rfl fun D B clk T hB hT=> ?_
 simp only[go_sem,w9n]
 refine z1f (fun m q=>∃ x y:Nat,m=y∧j8 x y=j8 a b∧(dec x).length≤50000000∧(dec y).length≤50000000∧q.ts 0= .str (dec x)∧q.ts 1= .str (dec y)∧q.h=D++[]) b ⟨a,b,rfl,rfl,hlen,hlenb,rfl,rfl,rfl⟩ ?_
 rintro m ⟨ts,h,clk⟩ P ⟨x,y,rfl,hg,hlx,hly,h0,h1,rfl⟩ hn he hr
 dsimp only at h0 h1
 by_cases hy:m=0
 ·subst hy
  have e1:decide (dec 0=[48])=true:=by rw[z1o];rfl
  simp only[go_sem,h0,h1,j3p,e1,z8]
  refine he _ _ ?_
  simp only[go_sem,h0]
  rw[z2z]
  rw[Nat.gcd_zero_right] at hg
  rw[hg]
  exact hT _
 ·have e1:decide (dec m=[48])=false:=by rw[z1o];simp[hy]
  have hpos:0 < m:=Nat.pos_of_ne_zero hy
  simp only[go_sem,h0,h1,j3p,e1,x6]
  rw[z0a (x5b hpos hlx hly)]
  simp only[go_sem,h0,h1]
  have hlt:=Nat.mod_lt x hpos
  refine hn (x % m) _ hlt ⟨m,x % m,rfl, ?_,hly,j1 (z4o (Nat.le_of_lt hlt)) hly,by simp[z0b,h1],rfl,rfl⟩
  rw[←hg,Nat.gcd_comm x m,Nat.gcd_rec m x,Nat.gcd_comm]
def z9o (neg:Bool) (n d:Nat):AV:= .agg [.bool neg, .str (dec n), .str (dec d)]
def z3g (neg:Bool) (n d:Nat):List Nat:=(if neg then [45] else [])++dec n++(if d=1 then [] else 47::dec d)
theorem q9z {neg:Bool} {a b:Nat} (hb:0 < b) (hlen:(dec a).length≤50000000) (hlenb:(dec b).length≤50000000):Pure Gam 230 [.bool neg, .str (dec a), .str (dec b)] (z9o (neg && !decide (a / j8 a b=0)) (a / j8 a b) (b / j8 a b)):=by
 refine Pure.of rfl y7x rfl rfl rfl rfl rfl fun D B clk T hB hT=> ?_
 have hg:0 < j8 a b:=Nat.gcd_pos_of_pos_right _ hb
 have hgl:(dec (j8 a b)).length≤50000000:=j1 (z4o (Nat.le_of_dvd hb (Nat.gcd_dvd_right a b))) hlenb
 simp only[go_sem,w9m,hB]
 rw[z0a (v9c hlen hlenb)]
 simp only[go_sem,]
 rw[z0a (x5b hg hlen hgl)]
 simp only[go_sem,]
 rw[z0a (x5b hg hlenb hgl)]
 cases neg
 ·simp only[go_sem,hB]
  rw[z2y rfl rfl]
  exact hT _
 ·simp only[go_sem,hB,z1o]
  rw[z2y rfl rfl]
  exact hT _
theorem q6h {neg:Bool} {n d:Nat} (hlen:(dec n).length≤50000000) (hlend:(dec d).length≤50000000):Pure Gam 231 [z9o neg n d] (.str (z3g neg n d)):=by
 refine Pure.of rfl y7y rfl rfl rfl rfl rfl fun D B clk T hB hT=> ?_
 have e1:∀ h,z8b h .add (.one .str) (.str [45]) (.str (dec n))=some (.str (45::dec n),h):=fun h=>q9k (by simp;omega)
 have e2:∀ h,z8b h .add (.one .str) (.str [47]) (.str (dec d))=some (.str (47::dec d),h):=fun h=>q9k (by simp;omega)
 have e3:∀ h,z8b h .add (.one .str) (.str (dec n)) (.str (47::dec d))=some (.str (dec n++47::dec d),h):=fun h=>q9k (by simp;omega)
 have e4:∀ h,z8b h .add (.one .str) (.str (45::dec n)) (.str (47::dec d))=some (.str (45::dec n++47::dec d),h):=fun h=>q9k (by simp;omega)
 unfold z3g at hT
 by_cases h1:d=1
 ·have ed:decide (dec d=[49])=true:=by rw[q2s];simp[h1]
  rw[if_pos h1] at hT
  cases neg
  all_goals
   simp only[go_sem,v8o,hB,z9o,e1,e2,e3,e4,ed,z8]
   rw[z2z]
   have:=hT
   simp only[j9,if_false,if_true,y8,w9,y6] at this
   exact this _
 ·have ed:decide (dec d=[49])=false:=by rw[q2s];simp[h1]
  rw[if_neg h1] at hT
  cases neg
  all_goals
   simp only[go_sem,v8o,hB,z9o,e1,e2,e3,e4,ed,x6]
   rw[z2z]
   have:=hT
   simp only[j9,if_false,if_true,y8,w9,y6] at this
   exact this _
def x2y (l:List Nat):Nat:=l.foldl (fun a x=>10 * a + x) 0
theorem v9d:∀ (l:List Nat) (a:Nat),l.foldl (fun a x=>10 * a + x) a=a * 10 ^ l.length + x2y l:=by
 intro l
 induction l with
 | nil=>intro a;simp[x2y]
 | cons x l ih=>
   intro a
   have h1:x2y (x::l)=x * 10 ^ l.length + x2y l:=by
    show List.foldl _ _ l=_
    rw[ih]
    simp
   simp only[List.foldl_cons,v5]
   rw[ih,h1,b8,k9]
   rw[show 10 * a * 10 ^ l.length=a * (10 ^ l.length * 10) by rw[u1 10 a,Nat.mul_assoc,u1 10]]
   omega
theorem q5f {x:Nat} {l:List Nat}:x2y (x::l)=x * 10 ^ l.length + x2y l:=by
 show List.foldl _ _ l=_
 rw[v9d]
 simp
theorem k2a {n:Nat}:x2y (x3 n 0)=0:=by
 induction n with
 | zero=>rfl
 | succ n ih=>rw[p8,q5f,ih];simp
theorem j4h:∀ {l:List Nat} {k y:Nat} (h:k < l.length),x2y (l.set k (l[k] + y))=x2y l + y * 10 ^ (l.length - 1 - k)
 | x::l,0,y,_=>by
   simp only[List.set_cons_zero,List.getElem_cons_zero,q5f,v5,Nat.add_sub_cancel,Nat.sub_zero,k9]
   omega
 | x::l,k + 1,y,h=>by
   have h':k < l.length:=by simpa using h
   have ih:=j4h (y:=y) h'
   simp only[List.set_cons_succ,List.getElem_cons_succ,q5f,List.length_set,v5,ih]
   rw[show l.length + 1 - 1 - (k + 1)=l.length - 1 - k by omega]
   omega
theorem k2b {l:List Nat} {k:Nat} (h:k < l.length):x2y (l.drop k)=l[k] * 10 ^ (l.length - 1 - k) + x2y (l.drop (k + 1)):=by
 rw[b6 h,q5f,List.length_drop]
 rw[show l.length - (k + 1)=l.length - 1 - k by omega]
theorem k7q {l:List Nat} {k x:Nat}:(l.map nat).set k (nat x)=(l.set k x).map nat:=List.map_set.symm
theorem q5g {l:List Nat} {k:Nat} (h:k < l.length):(l.map nat)[k]? =some (.int .i64 (l[k]:Int)):=by simp[h,nat]
theorem k7r {B clk n:Nat} {D:List AObj} {out:List Nat} {g1 g2:Nat} {ts:Tmps} {ks:List Kf} {Q:Post} (hB:D.length=B) (hl:out.length=n) (hn1:1≤n) (hn2:n≤50000000) (hb:∀ x∈out,x≤10 ^ 17) (htot:x2y out < 10 ^ n)
  (h5:ts 5= .ob (B + 0) g1 0 n) (h8:ts 8= .ob (B + 1) g2 0 n) (h9:ts 9= .int .i64 0) (h10:ts 10= .int .i64 ((n:Int) - 1))
  (hQ:∀ (suf:List Nat) (ts':Tmps) (clk':Nat),suf.length=n→q7f suf→z1g suf=x2y out→ts' 8= .ob (B + 1) g2 0 n→K Gam B (.exit 4) ks ⟨ts',D++[.blk g1 (out.map nat) true false 0, .blk g2 (bytes suf) true false 0],clk'⟩ Q):
  K Gam B (.loop q9s) ks ⟨ts,D++[.blk g1 (out.map nat) true false 0, .blk g2 (x3 n (.int .u8 0)) true false 0],clk⟩ Q:=by
 refine z1f (fun m q=>∃ (i c:Nat) (suf:List Nat),i≤n∧m=n - i∧suf.length=i∧(∀ c∈suf,48≤c∧c≤57)∧c≤10 ^ 17∧z1g suf + c * 10 ^ i=x2y (out.drop (n - i))∧q.ts 5= .ob (B + 0) g1 0 n∧q.ts 8= .ob (B + 1) g2 0 n∧q.ts 9= .int .i64 (c:Int)∧q.ts 10= .int .i64 ((n:Int) - i - 1)∧
  q.h=D++[.blk g1 (out.map nat) true false 0, .blk g2 (x3 (n - i) (.int .u8 0)++bytes suf) true false 0]) n ?_ ?_
 ·refine⟨0,0,[],by omega,rfl,rfl,by simp,by omega, ?_,h5,h8,h9,by simpa using h10,by simp[bytes]⟩
  rw[Nat.sub_zero,←hl,List.drop_length]
  simp[z1g,x2y]
 rintro m ⟨ts,h,clk⟩ P ⟨i,c,suf,hi,rfl,hsl,hsd,hc,hw,h5,h8,h9,h10,rfl⟩ hn he hr
 dsimp only at h5 h8 h9 h10
 by_cases hlt:i < n
 ·have hk:n - 1 - i < out.length:=by omega
  have e0:(n:Int) - i - 1=((n - 1 - i:Nat):Int):=by omega
  rw[e0] at h10
  have e1:decide ((0:Int)≤((n - 1 - i:Nat):Int))=true:=by rw[r8];omega
  have hx:=hb _ (x8 hk)
  have hdr:=k2b hk
  generalize hxx:out[n - 1 - i]=x at hx hdr
  have hidx1:∀ es,z1v (D++[.blk g1 (out.map nat) true false 0, .blk g2 es true false 0]) 1 (.ob (B + 0) g1 0 n) (.int .i64 ((n - 1 - i:Nat):Int))=some (.ptr (B + 0) g1 (n - 1 - i) 0,D++[.blk g1 (out.map nat) true false 0, .blk g2 es true false 0]):=fun es=>
   q3z (L:=[.blk g1 (out.map nat) true false 0, .blk g2 es true false 0]) (k:=0) hB rfl (q5g hk) rfl (by omega)
  have hgetn:(out.map nat)[n - 1 - i]? =some (.int .i64 (x:Int)):=by rw[q5g hk,hxx]
  have hidx2:z1v (D++[.blk g1 (out.map nat) true false 0, .blk g2 (x3 (n - i) (.int .u8 0)++bytes suf) true false 0]) 1 (.ob (B + 1) g2 0 n) (.int .i64 ((n - 1 - i:Nat):Int))=some (.ptr (B + 1) g2 (n - 1 - i) 0,D++[.blk g1 (out.map nat) true false 0, .blk g2 (x3 (n - i) (.int .u8 0)++bytes suf) true false 0]):=
   q3z (L:=[.blk g1 (out.map nat) true false 0, .blk g2 (x3 (n - i) (.int .u8 0)++bytes suf) true false 0]) (k:=1) hB rfl (q1r hlt) rfl (by omega)
  have hstore:∀ (y:Nat),z8n (D++[.blk g1 (out.map nat) true false 0, .blk g2 (x3 (n - i) (.int .u8 0)++bytes suf) true false 0]) 1 (.int .u8 (y:Int)) (.ptr (B + 1) g2 (n - 1 - i) 0)=some (.undef,D++[.blk g1 (out.map nat) true false 0, .blk g2 (x3 (n - (i + 1)) (.int .u8 0)++bytes (y::suf)) true false 0]):=fun y=>by
   have h:=z9y (K:= .u8) (n:=y) (K':= .u8) (m:=0) (D:=D) (B:=B) (g:=g2) (i:=n - 1 - i) (es:=x3 (n - i) (AV.int .u8 0)++bytes suf) (L:=[AObj.blk g1 (out.map nat) true false 0,AObj.blk g2 (x3 (n - i) (AV.int .u8 0)++bytes suf) true false 0]) (k:=1) (w:=false) hB rfl (q1r hlt)
   rw[x5a hlt] at h
   exact h
  have e2:IntKind.i64.wrap ((x:Int) + (c:Int))=((x + c:Nat):Int):=by rw[z0c (by omega) (by omega)];omega
  have e3:(((x + c:Nat):Int)).tmod 10=(((x + c) % 10:Nat):Int):=by
   rw[Int.tmod_eq_emod_of_nonneg (by omega)];omega
  have e4:IntKind.i64.wrap ((((x + c:Nat):Int)).tdiv 10)=(((x + c) / 10:Nat):Int):=by
   rw[IntWalk.i64_quo _ _ ⟨by omega,by omega,by omega⟩];omega
  have e5:IntKind.u8.wrap (IntKind.i64.wrap (48 + (((x + c) % 10:Nat):Int)))=((48 + (x + c) % 10:Nat):Int):=by rw[z0c (by omega) (by omega),IntWalk.u8_in _ (by omega)];omega
  have e6:IntKind.i64.wrap (((n - 1 - i:Nat):Int) - 1)=(n:Int) - ((i + 1:Nat):Int) - 1:=by rw[z0c (by omega) (by omega)];omega
  simp only[go_sem,h5,h8,h9,h10,hB,q9s,e1,hidx1,hgetn,e2,q1d (b:=10) (by decide),q4y (b:=10) (by decide),e3,e4,e5,e6,hidx2,hstore]
  refine hn (n - (i + 1)) _ (by omega) ⟨i + 1,(x + c) / 10,(48 + (x + c) % 10)::suf,hlt,rfl,by simp[hsl], ?_,by omega, ?_,by simp[z0b,h5],by simp[z0b,h8],by simp[z0b],by simp[z0b],rfl⟩
  ·intro c' hc'
   rw[j6] at hc'
   rcases hc' with rfl | hc'
   ·omega
   ·exact hsd c' hc'
  ·rw[show n - (i + 1)=n - 1 - i by omega,hdr,show n - 1 - i + 1=n - i by omega,←hw,z4c,hsl,hl,show n - 1 - (n - 1 - i)=i by omega,Nat.add_sub_cancel_left,b8]
   have hdm:=Nat.div_add_mod (x + c) 10
   have:=congrArg (· * 10 ^ i) hdm
   simp only[k9] at this
   rw[u1 (10 ^ i) 10,←Nat.mul_assoc,u1 _ 10]
   omega
 ·have hin:i=n:=by omega
  have e1:decide ((0:Int)≤(n:Int) - i - 1)=false:=by rw[n9];omega
  rw[hin,Nat.sub_self,u9] at hw
  have hc0:c=0:=Classical.byContradiction fun h=>by
   have:1 * 10 ^ n≤c * 10 ^ n:=w8 _ (by omega)
   omega
  subst hc0
  simp only[go_sem,h5,h8,h9,h10,q9s,e1]
  refine he _ _ ?_
  have hh:x3 (n - i) (AV.int .u8 0)++bytes suf=bytes suf:=by rw[show n - i=0 by omega];rfl
  rw[hh]
  exact hQ suf _ _ (by omega) ⟨fun h=>by rw[h] at hsl;simp at hsl;omega,hsd⟩ (by omega) (by simp[z0b,h8])
theorem x8p {C:List Nat} {j:Nat} (hj:j < C.length):z1g (C.take (j + 1)) * 10 ^ (C.length - (j + 1))=z1g (C.take j) * 10 ^ (C.length - j) + (C[j] - 48) * 10 ^ (C.length - (j + 1)):=by
 rw[z9z hj,show C.length - j=(C.length - (j + 1)) + 1 by omega,b8,k9]
 rw[u1 10,Nat.mul_assoc,u1 10]
theorem k7s {B clk i n:Nat} {D:List AObj} {out A C:List Nat} {g1:Nat} {o2:AObj} {ts:Tmps} {ks:List Kf} {Q:Post} (hB:D.length=B) (hl:out.length=n) (hn:n=A.length + C.length) (hA:A.length≤20000000) (hC:C.length≤20000000) (hi:i < A.length) (hda:∀ c∈A,48≤c∧c≤57) (hdc:∀ c∈C,48≤c∧c≤57) (hb:∀ x∈out,x≤100 * (20000000 * i))
  (h0:ts 0= .str A) (h1:ts 1= .str C) (h5:ts 5= .ob (B + 0) g1 0 n) (h6:ts 6= .int .i64 (i:Int)) (h7:ts 7= .int .i64 0)
  (hQ:∀ (out':List Nat) (ts':Tmps) (clk':Nat),out'.length=n→(∀ x∈out',x≤100 * (20000000 * (i + 1)))→x2y out'=x2y out + (A[i] - 48) * 10 ^ (A.length - (i + 1)) * z1g C→ts' 0= .str A→ts' 1= .str C→ts' 5= .ob (B + 0) g1 0 n→ts' 6= .int .i64 (i:Int)→K Gam B (.exit 2) ks ⟨ts',D++[.blk g1 (out'.map nat) true false 0,o2],clk'⟩ Q):
  K Gam B (.loop x2v) ks ⟨ts,D++[.blk g1 (out.map nat) true false 0,o2],clk⟩ Q:=by
 refine z1f (fun m q=>∃ (j:Nat) (out':List Nat),j≤C.length∧m=C.length - j∧out'.length=n∧(∀ x∈out',x≤100 * (20000000 * i + j))∧x2y out'=x2y out + (A[i] - 48) * 10 ^ (A.length - (i + 1)) * (z1g (C.take j) * 10 ^ (C.length - j))∧q.ts 0= .str A∧q.ts 1= .str C∧q.ts 5= .ob (B + 0) g1 0 n∧q.ts 6= .int .i64 (i:Int)∧q.ts 7= .int .i64 (j:Int)∧q.h=D++[.blk g1 (out'.map nat) true false 0,o2]) C.length ⟨0,out,by omega,rfl,hl,by simpa using hb,by simp[z1g],h0,h1,h5,h6,h7,rfl⟩ ?_
 clear h0 h1 h5 h6 h7
 rintro m ⟨ts,h,clk⟩ P ⟨j,out',hj,rfl,hl',hb',hw,h0,h1,h5,h6,h7,rfl⟩ hnx he hr
 dsimp only at h0 h1 h5 h6 h7
 by_cases hlt:j < C.length
 ·have e1:decide ((j:Int) < (C.length:Int))=true:=by rw[r8];omega
  have ek:IntKind.i64.wrap (IntKind.i64.wrap ((i:Int) + (j:Int)) + 1)=((i + j + 1:Nat):Int):=by rw[z0c (n:=(i:Int) + (j:Int)) (by omega) (by omega),z0c (by omega) (by omega)];omega
  have hk:i + j + 1 < out'.length:=by omega
  have hca:=hda _ (x8 hi)
  have hcc:=hdc _ (x8 hlt)
  have hx:=hb' _ (x8 hk)
  have ea:=q2r hca
  have ec:=q2r hcc
  have ea2:IntKind.i64.wrap ((A[i] - 48:Nat):Int)=((A[i] - 48:Nat):Int):=z0c (by omega) (by omega)
  have ec2:IntKind.i64.wrap ((C[j] - 48:Nat):Int)=((C[j] - 48:Nat):Int):=z0c (by omega) (by omega)
  have hprod:(A[i] - 48) * (C[j] - 48)≤81:=Nat.mul_le_mul (by omega:A[i] - 48≤9) (by omega:C[j] - 48≤9)
  have em:IntKind.i64.wrap (((A[i] - 48:Nat):Int) * ((C[j] - 48:Nat):Int))=(((A[i] - 48) * (C[j] - 48):Nat):Int):=by
   rw[←Int.natCast_mul]
   exact z0c (by omega) (by omega)
  have es:IntKind.i64.wrap ((out'[i + j + 1]:Int) + (((A[i] - 48) * (C[j] - 48):Nat):Int))=((out'[i + j + 1] + (A[i] - 48) * (C[j] - 48):Nat):Int):=by rw[z0c (by omega) (by omega)];omega
  have ej:IntKind.i64.wrap ((j:Int) + 1)=((j + 1:Nat):Int):=z0c (by omega) (by omega)
  have hidx:z1v (D++[.blk g1 (out'.map nat) true false 0,o2]) 1 (.ob (B + 0) g1 0 n) (.int .i64 ((i + j + 1:Nat):Int))=some (.ptr (B + 0) g1 (i + j + 1) 0,D++[.blk g1 (out'.map nat) true false 0,o2]):=
   q3z (L:=[.blk g1 (out'.map nat) true false 0,o2]) (k:=0) hB rfl (q5g hk) rfl (by omega)
  have hstore:∀ y:Nat,z8n (D++[.blk g1 (out'.map nat) true false 0,o2]) 1 (.int .i64 (y:Int)) (.ptr (B + 0) g1 (i + j + 1) 0)=some (.undef,D++[.blk g1 ((out'.set (i + j + 1) y).map nat) true false 0,o2]):=fun y=>by
   have h:=z9y (K:= .i64) (n:=y) (K':= .i64) (m:=(out'[i + j + 1]:Int)) (D:=D) (B:=B) (g:=g1) (i:=i + j + 1) (es:=out'.map nat) (L:=[AObj.blk g1 (out'.map nat) true false 0,o2]) (k:=0) (w:=false) hB rfl (q5g hk)
   rw[show (AV.int .i64 (y:Int))=nat y from rfl,k7q] at h
   exact h
  simp only[go_sem,h0,h1,h5,h6,h7,hB,x2v,e1,ek,hidx,q5g hk,q0s hi,q0s hlt,ea,ec,ea2,ec2,em,es,hstore,ej]
  refine hnx (C.length - (j + 1)) _ (by omega) ⟨j + 1,out'.set (i + j + 1) (out'[i + j + 1] + (A[i] - 48) * (C[j] - 48)),hlt,rfl,by simp[hl'], ?_, ?_,h0,h1,h5,h6,rfl,rfl⟩
  ·intro x hx'
   rcases List.mem_or_eq_of_mem_set hx' with h | rfl
   ·have:=hb' x h
    omega
   ·omega
  ·rw[j4h hk,hw,x8p hlt,Nat.mul_add,hl',show n - 1 - (i + j + 1)=(A.length - (i + 1)) + (C.length - (j + 1)) by omega,Nat.pow_add]
   have:(A[i] - 48) * (C[j] - 48) * (10 ^ (A.length - (i + 1)) * 10 ^ (C.length - (j + 1)))=(A[i] - 48) * 10 ^ (A.length - (i + 1)) * ((C[j] - 48) * 10 ^ (C.length - (j + 1))):=by
    simp only[Nat.mul_assoc,Nat.mul_left_comm]
   omega
 ·have hjC:j=C.length:=by omega
  have e1:decide ((j:Int) < (C.length:Int))=false:=by rw[n9];omega
  simp only[go_sem,h0,h1,h5,h6,h7,x2v,e1]
  refine he _ _ ?_
  refine hQ out' _ _ hl' (fun x hx=>by have:=hb' x hx;omega) ?_ (by simp[z0b,h0]) (by simp[z0b,h1]) (by simp[z0b,h5]) (by simp[z0b,h6])
  rw[hw,hjC,b7,Nat.sub_self,Nat.pow_zero,Nat.mul_one]
theorem k7t {n:Nat}:x3 n (AV.int .i64 0)=(x3 n 0).map nat:=by simp[nat]
theorem z8p {a b:Nat} (hlen:(dec a).length≤20000000) (hlenb:(dec b).length≤20000000):Pure Gam 279 [.str (dec a), .str (dec b)] (.str (dec (a * b))):=by
 refine Pure.of rfl y8c rfl rfl rfl rfl rfl fun D B clk T hB hT=> ?_
 have hda:=z1d a
 have hdc:=z1d b
 have hna:=l0.2 (z7d a)
 have hwa:=z1h a
 have hwb:=z1h b
 generalize hA:dec a=A at *
 generalize hC:dec b=C at *
 have en:IntKind.i64.wrap ((A.length:Int) + (C.length:Int))=((A.length + C.length:Nat):Int):=by rw[z0c (by omega) (by omega)];omega
 simp only[go_sem,w9p,hB,en,q9v (z:= .int .i64 0) (n:=A.length + C.length) (b:=8) rfl (by omega),k7t]
 generalize hn:A.length + C.length=n
 refine z1f (fun m q=>∃ (i:Nat) (out:List Nat) (g1:Nat) (o2:AObj),i≤A.length∧m=A.length - i∧out.length=n∧(∀ x∈out,x≤100 * (20000000 * i))∧x2y out=z1g (A.take i) * 10 ^ (A.length - i) * b∧q.ts 0= .str A∧q.ts 1= .str C∧q.ts 5= .ob (B + 0) g1 0 n∧q.ts 6= .int .i64 (i:Int)∧q.h=D++[.blk g1 (out.map nat) true false 0,o2]) A.length ?_ ?_
 ·refine⟨0,x3 n 0,_,_,by omega,rfl,by simp,by simp,by simp[k2a,z1g],rfl,rfl,rfl,rfl,rfl⟩
 rintro m ⟨ts,h,clk⟩ P ⟨i,out,g1,o2,hi,rfl,hl,hb,hw,h0,h1,h5,h6,rfl⟩ hnx he hr
 dsimp only at h0 h1 h5 h6
 by_cases hlt:i < A.length
 ·have e1:decide ((i:Int) < (A.length:Int))=true:=by rw[r8];omega
  have ei:IntKind.i64.wrap ((i:Int) + 1)=((i + 1:Nat):Int):=z0c (by omega) (by omega)
  simp only[go_sem,h0,h1,h5,h6,j3r,e1]
  refine k7s (i:=i) (A:=A) (C:=C) hB hl hn.symm hlen hlenb hlt hda hdc hb (by simp[z0b,h0]) (by simp[z0b,h1]) (by simp[z0b,h5]) (by simp[z0b,h6]) rfl ?_
  intro out' ts2 clk2 hl' hb' hw' q0 q1 q5 q6
  simp only[go_sem,q0,q1,q5,q6,ei]
  refine hnx (A.length - (i + 1)) _ (by omega) ⟨i + 1,out',g1,o2,hlt,rfl,hl',hb', ?_,q0,q1,q5,rfl,rfl⟩
  rw[hw',hw,x8p hlt,hwb,k9]
 ·have hiA:i=A.length:=by omega
  have e1:decide ((i:Int) < (A.length:Int))=false:=by rw[n9];omega
  rw[hiA,b7,hwa,Nat.sub_self,Nat.pow_zero,Nat.mul_one] at hw
  have hlt10:a * b < 10 ^ n:=by
   have h1:=z4k hda
   have h2:=z4k hdc
   rw[hwa] at h1
   rw[hwb] at h2
   rw[←hn,Nat.pow_add]
   rcases d7 b with rfl | hbp
   ·simp;exact Nat.mul_pos (Nat.pos_of_ne_zero (by simp)) (Nat.pos_of_ne_zero (by simp))
   ·exact Nat.lt_of_lt_of_le (Nat.mul_lt_mul_of_pos_right h1 hbp) (Nat.mul_le_mul_left _ (Nat.le_of_lt h2))
  have em:IntKind.i64.wrap ((n:Int) - 1)=(n:Int) - 1:=z0c (by omega) (by omega)
  simp only[go_sem,h0,h1,h5,h6,j3r,e1]
  refine he _ _ ?_
  simp only[go_sem,h0,h1,h5,h6,hB,q9v (z:= .int .u8 0) (n:=n) (b:=1) rfl (by omega),em]
  refine k7r (out:=out) hB hl (by omega) (by omega) (fun x hx=>by have:=hb x hx;omega) (by rw[hw];exact hlt10) (by simp[z0b,h5]) rfl rfl rfl ?_
  intro suf ts2 clk2 hsl hsd hsw q8
  have hof:∀ g2,k4k (D++[.blk g1 (out.map nat) true false 0, .blk g2 (bytes suf) true false 0]) (.ob (B + 1) g2 0 n)=some (.str suf,D++[.blk g1 (out.map nat) true false 0, .blk g2 (bytes suf) true false 0]):=fun g2=>by
   have hs:=q6f (B:=B) (D:=D) (L:=[.blk g1 (out.map nat) true false 0, .blk g2 (bytes suf) true false 0]) (k:=1) (g:=g2) (len:=n) hB rfl (by rw[q5e,hsl])
   simp only[k4k,hs,Option.bind_some]
   rw[z6s fun c hc=>by have:=hsd.2 c hc;omega]
   rfl
  simp only[go_sem,q8,hof]
  rw[z0a (q0t hsd),hsw,hw]
  simp only[go_sem,]
  rw[z2z]
  exact hT _
theorem x8q {B clk:Nat} {D L:List AObj} {s:List Nat} {g4:Nat} {v0:AV} {ts:Tmps} {ks:List Kf} {Q:Post} (hd:∀ c∈s,48≤c∧c≤57) (hl:s.length≤100000000) (h0:ts 0=v0) (h4:ts 4= .ptr (B + 1) g4 0 0) (h5:ts 5= .str s) (h6:ts 6= .int .i64 0) {g2:Nat} (h2:ts 2= .ptr (B + 0) g2 0 0)
  (hQ:∀ (ts':Tmps) (clk':Nat),ts' 0=v0→ts' 2= .ptr (B + 0) g2 0 0→ts' 4= .ptr (B + 1) g4 0 0→ts' 5= .str s→K Gam B (.exit 0) ks ⟨ts',D++L,clk'⟩ Q):K Gam B (.loop q7e) ks ⟨ts,D++L,clk⟩ Q:=by
 refine z1f (fun m q=>∃ j:Nat,j≤s.length∧m=s.length - j∧q.ts 0=v0∧q.ts 2= .ptr (B + 0) g2 0 0∧q.ts 4= .ptr (B + 1) g4 0 0∧q.ts 5= .str s∧q.ts 6= .int .i64 (j:Int)∧q.h=D++L) s.length ⟨0,by omega,rfl,h0,h2,h4,h5,h6,rfl⟩ ?_
 clear h0 h2 h4 h5 h6
 rintro m ⟨ts,h,clk⟩ P ⟨j,hj,rfl,h0,h2,h4,h5,h6,rfl⟩ hn he hr
 dsimp only at h0 h2 h4 h5 h6
 by_cases hlt:j < s.length
 ·have e1:decide ((j:Int) < (s.length:Int))=true:=by rw[r8];omega
  have hc:=hd s[j] (x8 hlt)
  have e2:decide ((s[j]:Int)=47)=false:=by rw[n9];omega
  have e4:IntKind.i64.wrap ((j:Int) + 1)=((j + 1:Nat):Int):=z0c (by omega) (by omega)
  simp only[go_sem,h0,h2,h4,h5,h6,q7e,e1,q0s hlt,e2,e4]
  exact hn (s.length - (j + 1)) _ (by omega) ⟨j + 1,hlt,rfl,h0,h2,h4,h5,rfl,rfl⟩
 ·have e1:decide ((j:Int) < (s.length:Int))=false:=by rw[n9];omega
  simp only[go_sem,h0,h2,h4,h5,h6,q7e,e1]
  refine he _ _ ?_
  exact hQ _ _ (by simp[z0b,h0]) (by simp[z0b,h2]) (by simp[z0b,h4]) (by simp[z0b,h5])
theorem z2e:dec 1=[49]:=z6p (by omega)
theorem j4i (z:Int):z0f z=z3g (decide (z < 0)) z.natAbs 1:=by
 unfold z0f z3g
 by_cases h:z < 0 <;> simp[h]
theorem q1u {z:Int} (hl:(dec z.natAbs).length≤50000000):Pure Gam 165 [.str (z0f z)] (.tup [z9o (decide (z < 0)) z.natAbs 1, .bool true]):=by
 have hdn:=z1d z.natAbs
 have hdne:=z7d z.natAbs
 have hdig:q7f (dec z.natAbs):=⟨hdne,hdn⟩
 have hp1:Pure Gam 207 [.str [49]] (.bool true):=q6e ⟨by simp,by simp⟩ (by simp)
 have hp2:Pure Gam 208 [.str [49]] (.str [49]):=by have:=q0t (s:=[49]) ⟨by simp,by simp⟩;rwa [show z1g [49]=1 from rfl,z2e] at this
 have hp3:Pure Gam 208 [.str (dec z.natAbs)] (.str (dec z.natAbs)):=by have:=q0t hdig;rwa [z1h] at this
 have hp4:∀ neg:Bool,(neg=true→z.natAbs≠0)→Pure Gam 230 [.bool neg, .str (dec z.natAbs), .str [49]] (z9o neg z.natAbs 1):=fun neg hneg=>by
  have:=q9z (neg:=neg) (a:=z.natAbs) (b:=1) (by omega) hl (by rw[z2e];simp)
  rw[z2e,Nat.gcd_one_right,Nat.div_one,Nat.div_one] at this
  cases neg
  ·exact this
  ·have h0:=hneg rfl
   simpa [h0] using this
 have hp5:∀ neg:Bool,Pure Gam 231 [z9o neg z.natAbs 1] (.str (z3g neg z.natAbs 1)):=fun neg=>q6h hl (by rw[z2e];simp)
 refine Pure.of rfl w9l rfl rfl rfl rfl rfl fun D B clk T hB hT=> ?_
 by_cases hz:z < 0
 ·have he:z0f z=45::dec z.natAbs:=by rw[z0f,if_pos hz]
  have hdz:decide (z < 0)=true:=by simp[hz]
  rw[he]
  simp only[go_sem,k1t,hB,z1p,x6,z5s,z9,q9u,decide_true,decide_false,z7]
  refine⟨by simp[z1r,apart,z0q,z1n,z1t,AOp.isCall,hB], ?_⟩
  refine x8q (v0:= .str (45::dec z.natAbs)) hdn (by omega) rfl rfl rfl rfl rfl ?_
  intro ts2 clk2 q0 q2 q4 q5
  have e1:decide (([49]:List Nat)=[48])=false:=rfl
  have e2:decide (dec z.natAbs=dec z.natAbs)=true:=by simp
  have e3:decide (z3g true z.natAbs 1=45::dec z.natAbs)=true:=by simp[z3g]
  simp only[go_sem,q0,q2,q4,q5,hB,z1p,z0a (q6e hdig (by omega)),z0a hp1,z0a hp2,z0a hp3,z0a (hp4 true (by omega)),z0a (hp5 true),e1,e2,e3,z8,x6,decide_true,decide_false]
  refine⟨by simp[z1r,apart,z0q,z1n,z1t,AOp.isCall,hB], ?_⟩
  rw[z0h rfl rfl]
  rw[hdz] at hT
  have:=hT
  rw[z9o,z2e] at this
  exact this _
 ·have he:z0f z=dec z.natAbs:=by rw[z0f,if_neg hz]
  have hdz:decide (z < 0)=false:=by simp[hz]
  rw[he]
  obtain⟨c,t,hct⟩:=m9 hdne
  have hc:=hdn c (by rw[hct];exact j7)
  have e0:decide (dec z.natAbs=[])=false:=by simp[hdne]
  have e00:∀ h k,q3t h (.str (dec z.natAbs)) (.int k 0)=some (.int .u8 (c:Int),h):=fun h k=>by rw[hct];exact z5s
  have ec:decide ((c:Int)=45)=false:=by rw[n9];omega
  simp only[go_sem,k1t,hB,z1p,x6,e0,e00,ec,z9,decide_true,decide_false,z7]
  refine x8q (v0:= .str (dec z.natAbs)) hdn (by omega) rfl rfl rfl rfl rfl ?_
  intro ts2 clk2 q0 q2 q4 q5
  have e1:decide (([49]:List Nat)=[48])=false:=rfl
  have e2:decide (dec z.natAbs=dec z.natAbs)=true:=by simp
  have e3:decide (z3g false z.natAbs 1=dec z.natAbs)=true:=by simp[z3g]
  simp only[go_sem,q0,q2,q4,q5,hB,z1p,z0a (q6e hdig (by omega)),z0a hp1,z0a hp2,z0a hp3,z0a (hp4 false (by simp)),z0a (hp5 false),e1,e2,e3,z8,x6,decide_true,decide_false]
  refine⟨by simp[z1r,apart,z0q,z1n,z1t,AOp.isCall,hB], ?_⟩
  rw[z0h rfl rfl]
  rw[hdz] at hT
  have:=hT
  rw[z9o,z2e] at this
  exact this _
theorem k7u {x y:Int}:z3g ((!(decide (x < 0)==decide (y < 0))) && !decide (x.natAbs * y.natAbs=0)) (x.natAbs * y.natAbs) 1=z0f (x * y):=by
 rw[j4i,Int.natAbs_mul]
 congr 1
 rw[Bool.eq_iff_iff]
 simp only[Bool.and_eq_true,Bool.not_eq_true',n9,r8,beq_eq_false_iff_ne,ne_eq,decide_eq_decide]
 rcases Int.lt_trichotomy x 0 with hx | hx | hx <;> rcases Int.lt_trichotomy y 0 with hy | hy | hy
 ·have:=Int.mul_pos_of_neg_of_neg hx hy
  simp[hx,hy];omega
 ·subst hy;simp
 ·have:=Int.mul_neg_of_neg_of_pos hx hy
  have h2:¬ y < 0:=by omega
  simp[hx,h2,this];exact Nat.ne_of_gt (Nat.mul_pos (by omega) (by omega))
 ·subst hx;simp
 ·subst hx;simp
 ·subst hx;simp
 ·have:=Int.mul_neg_of_pos_of_neg hx hy
  have h2:¬ x < 0:=by omega
  simp[hy,h2,this];exact Nat.ne_of_gt (Nat.mul_pos (by omega) (by omega))
 ·subst hy;simp
 ·have:=Int.mul_pos hx hy
  have h2:¬ x < 0:=by omega
  have h3:¬ y < 0:=by omega
  simp[h2,h3];omega
theorem v9e {x y:Int} (hx:(dec x.natAbs).length≤20000000) (hy:(dec y.natAbs).length≤20000000) (hxy:(dec (x.natAbs * y.natAbs)).length≤50000000):Pure Gam 285 [.str (z0f x), .str (z0f y)] (.str (z0f (x * y))):=by
 refine Pure.of rfl w9j rfl rfl rfl rfl rfl fun D B clk T hB hT=> ?_
 have hp1:Pure Gam 279 [.str [49], .str [49]] (.str [49]):=by
  have:=z8p (a:=1) (b:=1) (by rw[z2e];simp) (by rw[z2e];simp)
  rwa [z2e] at this
 have hp2:∀ neg:Bool,Pure Gam 230 [.bool neg, .str (dec (x.natAbs * y.natAbs)), .str [49]] (z9o (neg && !decide (x.natAbs * y.natAbs=0)) (x.natAbs * y.natAbs) 1):=fun neg=>by
  have:=q9z (neg:=neg) (a:=x.natAbs * y.natAbs) (b:=1) (by omega) hxy (by rw[z2e];simp)
  rwa [z2e,Nat.gcd_one_right,Nat.div_one,Nat.div_one] at this
 have hp3:∀ neg:Bool,Pure Gam 231 [z9o neg (x.natAbs * y.natAbs) 1] (.str (z3g neg (x.natAbs * y.natAbs) 1)):=fun neg=>q6h hxy (by rw[z2e];simp)
 simp only[go_sem,v8m,hB]
 rw[z0a (q1u (by omega))]
 simp only[go_sem,hB,z9o,z2e]
 rw[z0a (q1u (by omega))]
 simp only[go_sem,hB,z9o,z2e,z8,x6,z1p,z0a (z8p (a:=x.natAbs) (b:=y.natAbs) (by omega) (by omega)),z0a hp1]
 rw[z0a (hp2 _)]
 simp only[go_sem,]
 rw[z0a (hp3 _)]
 simp only[go_sem,]
 refine⟨by simp[z1r,apart,z0q,z1n,z1t,AOp.isCall,hB], ?_⟩
 rw[z2z,k7u]
 exact hT _
theorem v9f {x:Int} {d:Nat} (hx:(dec x.natAbs).length≤20000000) (hd:1≤d) (hd4:d≤4):Pure Gam 301 [.str (z0f x), .str (z0f (d:Int))] (.str (z3g (decide (x < 0) && !decide (x.natAbs / j8 x.natAbs d=0)) (x.natAbs / j8 x.natAbs d) (d / j8 x.natAbs d))):=by
 refine Pure.of rfl w9k rfl rfl rfl rfl rfl fun D B clk T hB hT=> ?_
 have hdl:(dec d).length≤1:=z6q (by omega) (by omega)
 have hp1:Pure Gam 279 [.str (dec x.natAbs), .str [49]] (.str (dec x.natAbs)):=by
  have:=z8p (a:=x.natAbs) (b:=1) (by omega) (by rw[z2e];simp)
  rwa [z2e,Nat.mul_one] at this
 have hp2:Pure Gam 279 [.str [49], .str (dec d)] (.str (dec d)):=by
  have:=z8p (a:=1) (b:=d) (by rw[z2e];simp) (by omega)
  rwa [z2e,Nat.one_mul] at this
 have hdn:((d:Int)).natAbs=d:=Int.natAbs_natCast d
 have hdz:decide ((d:Int) < 0)=false:=by rw[n9];omega
 have hd0:decide (dec d=[48])=false:=by rw[z1o,n9];omega
 have hr:=q1u (z:=(d:Int)) (by rw[hdn];omega)
 rw[hdn,hdz] at hr
 have hle1:(dec (x.natAbs / j8 x.natAbs d)).length≤50000000:=j1 (z4o (Nat.div_le_self _ _)) (by omega)
 have hle2:(dec (d / j8 x.natAbs d)).length≤50000000:=j1 (z4o (Nat.div_le_self _ _)) (by omega)
 simp only[go_sem,v8n,hB]
 rw[z0a (q1u (by omega))]
 simp only[go_sem,hB,z9o,z2e]
 rw[z0a hr]
 simp only[go_sem,hB,z9o,z2e,z8,x6,hd0,z1p,z0a hp1,z0a hp2]
 rw[z0a (q9z (by omega) (by omega) (by omega))]
 simp only[go_sem,]
 rw[z0a (q6h hle1 hle2)]
 simp only[go_sem,]
 refine⟨by simp[z1r,apart,z0q,z1n,z1t,AOp.isCall,hB], ?_⟩
 rw[z2z]
 have:=hT
 rw[Bool.not_not]
 exact this _
section
variable {l:List Int}
def u6m (v:AV):Prop:=∃ z:Int,v= .str (z0f z)∧z.natAbs < 10 ^ 26
theorem v3k (hl:q7t l):GenOk l 305 [] u6m:=by
 refine GenOk.of rfl y7m rfl rfl rfl rfl rfl fun D B p g i clk T hB hs hD hi hR=> ?_
 simp only[go_sem,w8p,hB]
 refine z0l (z3u hl (by decide) (by decide)) hB hs hD hi ?_
 clear hB hD hi
 rintro v D i ⟨r,rfl,hr1,hr2⟩ hB hD hi
 obtain h6 | h7 | h8:r=6∨r=7∨(r≠6∧r≠7):=by omega
 ·subst h6
  simp only[go_sem,z7,decide_true,decide_false]
  refine z0l (z3u hl (by decide) (by decide)) hB hs hD hi ?_
  clear hB hD hi
  rintro v D i ⟨r,rfl,hr3,hr4⟩ hB hD hi
  simp only[go_sem,z0c (n:=r - 1000) (by omega) (by omega)]
  rw[z0a (z7p (by omega) (by omega))]
  simp only[go_sem,]
  rw[z2z]
  exact hR _ _ i (by rw[z0m hB hs];exact hD) hi ⟨_,rfl,by omega⟩
 ·subst h7
  simp only[go_sem,z7,decide_true,decide_false]
  refine z0l (z3u hl (by decide) (by decide)) hB hs hD hi ?_
  clear hB hD hi
  rintro v D i ⟨x,rfl,hr3,hr4⟩ hB hD hi
  simp only[go_sem,z0c (n:=x - 549755813888) (by omega) (by omega)]
  rw[z0a (z7p (by omega) (by omega))]
  simp only[go_sem,]
  refine z0l (z3u hl (by decide) (by decide)) hB hs hD hi ?_
  clear hB hD hi
  rintro v D i ⟨y,rfl,hr5,hr6⟩ hB hD hi
  simp only[go_sem,]
  rw[z0a (z7p (by omega) (by omega))]
  have hx:(x - 549755813888).natAbs < 10 ^ 13:=by omega
  have hy:y.natAbs < 10 ^ 13:=by omega
  have hxy:(x - 549755813888).natAbs * y.natAbs < 10 ^ 26:=Nat.lt_of_le_of_lt (Nat.mul_le_mul (Nat.le_sub_one_of_lt hx) (Nat.le_sub_one_of_lt hy)) (by decide)
  simp only[go_sem,]
  rw[z0a (v9e (j1 (z6q (k:=13) (by omega) hx) (by omega)) (j1 (z6q (k:=13) (by omega) hy) (by omega)) (j1 (z6q (k:=26) (by omega) hxy) (by omega)))]
  simp only[go_sem,]
  rw[z2z]
  exact hR _ _ i (by rw[z0m hB hs];exact hD) hi ⟨_,rfl,by rw[Int.natAbs_mul];exact hxy⟩
 ·have e6:decide (r=6)=false:=by simp[h8.1]
  have e7:decide (r=7)=false:=by simp[h8.2]
  simp only[go_sem,e6,e7]
  refine z0l (z3u hl (by decide) (by decide)) hB hs hD hi ?_
  clear hB hD hi
  rintro v D i ⟨r,rfl,hr3,hr4⟩ hB hD hi
  simp only[go_sem,z0c (n:=r - 4) (by omega) (by omega)]
  rw[z0a (z7p (by omega) (by omega))]
  simp only[go_sem,]
  rw[z2z]
  exact hR _ _ i (by rw[z0m hB hs];exact hD) hi ⟨_,rfl,by omega⟩
end
end
end Go.Proofs.YtkollgjffkdliaaGreatDoor.Am
