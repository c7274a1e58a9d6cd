/- Walking: limbs are divided by a z3m Walking: the greatest common divisor with a z3m Walking: digits are read as limbs Walking: short digits are read as a number Walking: canonical numbers are valid  -/
import Derived.Test.YtmkblnlafljljaaGreatDoorM30
open Nat renaming reduceBEq → z0,reduceAdd → z1,reduceLeDiff → z2,reduceSub → z3
set_option linter.all false
namespace Go.Proofs.YtmkblnlafljljaaGreatDoor.Am
open Go
set_option maxRecDepth 100000
theorem j7u {l:List Nat} {k:Nat} (h:k < l.length):z7a (l.drop k)=l[k] + 1000000000 * z7a (l.drop (k + 1)):=by
 rw[List.drop_eq_getElem_cons h,z7a]
theorem j2q {D L:List AObj} {B k g n:Nat} {es:List AV} {w:Bool} (hB:D.length=B) (hL:L[k]? =some (.blk g es true w 0)):freezeAll (D++L) [(B + k,n)]=D++L.set k (.blk g es true w n):=by
 have hg:(D++L)[B + k]? =some (.blk g es true w 0):=by rw[z5w hB];exact hL
 simp only[freezeAll,hg,z5j hB,Nat.zero_max]
theorem v2m {la:List Nat} {b:Nat} (ha:∀ x∈la,x < 1000000000) (hl:la.length≤1000) (hb0:0 < b) (hb:b < 1000000000):Pure Gam 256 [.sl (la.map z3m) .no, .int .u32 (b:Int)] (.tup [.sl ((nl (z7a la / b)).map z3m) .no, .sl ((nl (z7a la % b)).map z3m) .no]):=by
 refine Pure.of rfl y1i rfl rfl rfl (az:=[.sl (la.map z3m) .no, .int .u32 (b:Int)]) rfl (by simp[idsL,AV.ids,AV.cv,z2x]) fun D B clk T hB hT=> ?_
 have e0:IntKind.i64.wrap ((la.length:Int) - 1)=(la.length:Int) - 1:=z0c (by omega) (by omega)
 have hms:∀ h s g,msV h s g (.int .u32 0) 4 (.int .i64 (la.length:Int)) (.int .i64 (la.length:Int))=some (.ob s g 0 la.length,h.set s (.blk g (List.replicate la.length (.int .u32 0)) true false 0)):=fun h s g=>q3x rfl (by omega)
 simp only[go_sem,z0,w3e,List.length_map,hB,hms,e0]
 generalize hgr:clk + 2 + 2=gr
 refine z0t (fun m q=>∃ (i r:Nat) (qs:List Nat),i≤la.length∧m=la.length - i∧qs.length=i∧(∀ x∈qs,x < 1000000000)∧r < b∧z7a (la.drop (la.length - i))=b * z7a qs + r∧q.ts 0= .sl (la.map z3m) .no∧q.ts 1= .int .u32 (b:Int)∧q.ts 6= .ob (B + 0) gr 0 la.length∧q.ts 7= .int .u64 (r:Int)∧q.ts 8= .int .i64 ((la.length:Int) - i - 1)∧
  q.h=D++[.blk gr (List.replicate (la.length - i) (.int .u32 0)++qs.map z3m) true false 0, .dead]) la.length ?_ ?_
 ·refine⟨0,0,[],by omega,rfl,rfl,by simp,hb0,by simp[z7a],rfl,rfl, ?_,rfl,by simp[z0b],by simp⟩
  subst hgr;rfl
 rintro m ⟨ts,h,clk⟩ P ⟨i,r,qs,hi,rfl,hql,hqb,hr,hw,h0,h1,h6,h7,h8,rfl⟩ hn he hrt
 dsimp only at h0 h1 h6 h7 h8
 by_cases hlt:i < la.length
 ·have hk:la.length - 1 - i < la.length:=by omega
  have e1:(la.length:Int) - i - 1=((la.length - 1 - i:Nat):Int):=by omega
  rw[e1] at h8
  have e2:decide ((0:Int)≤((la.length - 1 - i:Nat):Int))=true:=by rw[decide_eq_true_iff];omega
  have hx:=ha _ (List.getElem_mem hk)
  have hdr:=j7u hk
  generalize hxx:la[la.length - 1 - i]=x at hx hdr
  rw[show la.length - 1 - i + 1=la.length - i by omega,hw] at hdr
  have hv:r * 1000000000 + x < b * 1000000000:=by
   have:(r + 1) * 1000000000≤b * 1000000000:=Nat.mul_le_mul_right _ hr
   omega
  have hv2:b * 1000000000 < 1000000000 * 1000000000:=Nat.mul_lt_mul_of_pos_right hb (by omega)
  have hquo:(r * 1000000000 + x) / b < 1000000000:=(Nat.div_lt_iff_lt_mul hb0).2 (by rw[Nat.mul_comm 1000000000 b];exact hv)
  have hrem:(r * 1000000000 + x) % b < b:=Nat.mod_lt _ hb0
  have hdm:=Nat.div_add_mod (r * 1000000000 + x) b
  generalize hq:(r * 1000000000 + x) / b=y at hquo hdm
  generalize hz:(r * 1000000000 + x) % b=z at hrem hdm
  have hidx0:∀ h,z1t h 1 (.sl (la.map z3m) .no) (.int .i64 ((la.length - 1 - i:Nat):Int))=some (.iptr [.int .u32 (x:Int)] 0,h):=fun h=>by rw[q0k hk,hxx]
  have w1:IntKind.u64.wrap ((r:Int) * 1000000000)=((r * 1000000000:Nat):Int):=by rw[u64_in (by omega) (by omega)];omega
  have w2:IntKind.u64.wrap (x:Int)=(x:Int):=u64_in (by omega) (by omega)
  have w3:IntKind.u64.wrap (((r * 1000000000:Nat):Int) + (x:Int))=((r * 1000000000 + x:Nat):Int):=by rw[u64_in (by omega) (by omega)];omega
  have w4:IntKind.u64.wrap (b:Int)=(b:Int):=u64_in (by omega) (by omega)
  have w5:IntKind.u32.wrap (IntKind.u64.wrap ((((r * 1000000000 + x:Nat):Int)).tdiv (b:Int)))=(y:Int):=by
   rw[IntWalk.up_tdiv rfl rfl,hq,u64_in (by omega) (by omega),u32_in (by omega) (by omega)]
  have w6:(((r * 1000000000 + x:Nat):Int)).tmod (b:Int)=(z:Int):=by rw[IntWalk.up_tmod rfl rfl,hz]
  have hbn:(b:Int)≠0:=by omega
  have hidx:z1t (D++[.blk gr (List.replicate (la.length - i) (.int .u32 0)++qs.map z3m) true false 0, .dead]) 1 (.ob (B + 0) gr 0 la.length) (.int .i64 ((la.length - 1 - i:Nat):Int))=some (.ptr (B + 0) gr (la.length - 1 - i) 0,D++[.blk gr (List.replicate (la.length - i) (.int .u32 0)++qs.map z3m) true false 0, .dead]):=
   z8d (L:=[.blk gr (List.replicate (la.length - i) (.int .u32 0)++qs.map z3m) true false 0, .dead]) (k:=0) hB rfl (q4x hlt) rfl (by omega)
  have hstore:z8x (D++[.blk gr (List.replicate (la.length - i) (.int .u32 0)++qs.map z3m) true false 0, .dead]) 1 (.int .u32 (y:Int)) (.ptr (B + 0) gr (la.length - 1 - i) 0)=some (.undef,D++[.blk gr (List.replicate (la.length - (i + 1)) (.int .u32 0)++(y::qs).map z3m) true false 0, .dead]):=by
   have h:=z8c (K:= .u32) (n:=y) (K':= .u32) (m:=0) (D:=D) (B:=B) (g:=gr) (i:=la.length - 1 - i) (es:=List.replicate (la.length - i) (AV.int .u32 0)++qs.map z3m) (L:=[AObj.blk gr (List.replicate (la.length - i) (AV.int .u32 0)++qs.map z3m) true false 0, .dead]) (k:=0) (w:=false) hB rfl (q4x hlt)
   rw[x7v hlt] at h
   exact h
  have e6:IntKind.i64.wrap (((la.length - 1 - i:Nat):Int) - 1)=(la.length:Int) - ((i + 1:Nat):Int) - 1:=by rw[z0c (by omega) (by omega)];omega
  simp only[go_sem,z0,h0,h1,h6,h7,h8,hB,j7n,e2,hidx0,w1,w2,w3,w4,x4u hbn,q7x hbn,w5,w6,hidx,hstore,e6]
  refine hn (la.length - (i + 1)) _ (by omega) ⟨i + 1,z,y::qs,hlt,rfl,by simp[hql], ?_,hrem, ?_,by simp[z0b,h0],by simp[z0b,h1],by simp[z0b,h6],by simp[z0b],by simp[z0b],rfl⟩
  ·intro c hc
   rw[List.mem_cons] at hc
   rcases hc with rfl | hc
   ·exact hquo
   ·exact hqb c hc
  ·rw[show la.length - (i + 1)=la.length - 1 - i by omega,hdr,z7a]
   have:b * (y + 1000000000 * z7a qs)=b * y + 1000000000 * (b * z7a qs):=by rw[Nat.mul_add,Nat.mul_left_comm]
   rw[this]
   omega
 ·have hin:i=la.length:=by omega
  have e1:decide ((0:Int)≤(la.length:Int) - i - 1)=false:=by rw[decide_eq_false_iff_not];omega
  rw[hin,Nat.sub_self,List.drop_zero] at hw
  have hh:List.replicate (la.length - i) (AV.int .u32 0)++qs.map z3m=qs.map z3m:=by rw[show la.length - i=0 by omega];rfl
  have hq1:z7a la / b=z7a qs:=by
   rw[hw,Nat.add_comm,Nat.add_mul_div_left _ _ hb0,Nat.div_eq_of_lt hr,Nat.zero_add]
  have hq2:z7a la % b=r:=by
   rw[hw,Nat.add_comm,Nat.add_mul_mod_self_left,Nat.mod_eq_of_lt hr]
  have hp1:=x8a (t:= .no) hqb (by omega)
  have hp2:Pure Gam 247 [.sl [.int .u32 (r:Int)] .full] (.sl ((nl r).map z3m) .no):=by
   have:=x8a (l:=[r]) (t:= .full) (by intro x hx;simp at hx;omega) (by simp)
   simpa [z7a,z3m] using this
  have w1:IntKind.u32.wrap (r:Int)=(r:Int):=u32_in (by omega) (by omega)
  have hpa:z1f (D++[.blk gr (qs.map z3m) true false 0, .dead]) [] 0 [.ob (B + 0) gr 0 la.length]=some [.sl (qs.map z3m) .no]:=by
   have:=q0j (L:=[.blk gr (qs.map z3m) true false 0, .dead]) (k:=0) (g:=gr) (w:=false) (len:=la.length) hB rfl (by simp;omega)
   simp only[z5g] at this
   simp only[z1f,List.contains_nil,Bool.false_eq_true,if_false,conv,this,Option.map_some]
  have hfr:freezeAll (D++[.blk gr (qs.map z3m) true false 0, .dead]) (z0n [] 0 [.ob (B + 0) gr 0 la.length])=D++[.blk gr (qs.map z3m) true false la.length, .dead]:=by
   have:=j2q (L:=[.blk gr (qs.map z3m) true false 0, .dead]) (k:=0) (g:=gr) (w:=false) (n:=0 + la.length) hB rfl
   rw[Nat.zero_add] at this
   simpa [z0n,AV.obs] using this
  have hck:∀ {base gg clk dst os ts ks Q},CK Gam base 247 [.ob (B + 0) gr 0 la.length] (D++[.blk gr (qs.map z3m) true false 0, .dead]) clk .plain dst gg os ts ks Q=O Gam base .plain (gg + 1) os ⟨z8n ts dst (.sl ((nl (z7a qs)).map z3m) .no),D++[.blk gr (qs.map z3m) true false la.length, .dead],clk⟩ ks Q:=by
   intro base gg clk dst os ts ks Q
   rw[j7t hp1 rfl w3a rfl rfl hpa (by simp[cvL,AV.cv]) rfl (by simp[idsL,AV.ids,z2x]) (by simp[AV.ids,z2x])]
   rw[hfr]
   rfl
  rw[hh]
  simp only[go_sem,z0,h0,h1,h6,h7,h8,hB,j7n,e1]
  refine he _ _ ?_
  simp only[go_sem,z0,h0,h1,h6,h7,h8,hB,hck,w1,z0a hp2]
  rw[q8m,←hq1,←hq2]
  exact hT _
theorem j7v {l:List Nat} {x:Nat} {h:List AObj} {t:Tip} {k:IntKind} (hl:l=[x]):z1t h 1 (.sl (l.map z3m) t) (.int k 0)=some (.iptr [.int .u32 (x:Int)] 0,h):=by
 subst hl
 exact z2e
theorem v2n {x y:Nat} (hx:(nl x).length≤1000) (hy0:0 < y) (hy:y < 1000000000):Pure Gam 248 [.sl ((nl x).map z3m) .no, .sl ((nl y).map z3m) .no] (.tup [.sl ((nl (x / y)).map z3m) .no, .sl ((nl (x % y)).map z3m) .no]):=by
 have hny:=x2q hy0 hy
 obtain⟨r,hr1,hr2,hp⟩:=v2k (x:=x) (y:=y) hx (by rw[hny];simp)
 have hq:=v2m (la:=nl x) (b:=y) (v2g x) hx hy0 hy
 rw[q2w] at hq
 refine Pure.of rfl y1h rfl rfl rfl (az:=[.sl ((nl x).map z3m) .no, .sl ((nl y).map z3m) .no]) rfl (by simp[idsL,AV.ids,AV.cv,z2x]) fun D B clk T hB hT=> ?_
 by_cases hlt:x < y
 ·have e1:decide (r < 0)=true:=by rw[decide_eq_true_iff];omega
  rw[Nat.div_eq_of_lt hlt,Nat.mod_eq_of_lt hlt,z8e] at hT
  simp only[go_sem,z0,v1u,z0a hp,e1]
  have:= @q8m [] [] (nl x) .nil .no T (D++[.dead, .dead, .dead, .dead])
  simp only[List.map_nil] at this
  rw[this]
  exact hT _
 ·have e1:decide (r < 0)=false:=by rw[decide_eq_false_iff_not];omega
  have e2:decide (((nl y).length:Int)=1)=true:=by rw[hny];rfl
  simp only[go_sem,z0,v1u,z0a hp,e1,List.length_map,e2,j7v hny,z0a hq]
  rw[q8m]
  exact hT _
theorem v2o {x y:Nat} (hx:(nl x).length≤1000) (hy:y < 1000000000):Pure Gam 241 [.sl ((nl x).map z3m) .no, .sl ((nl y).map z3m) .no] (.sl ((nl (Nat.gcd x y)).map z3m) .no):=by
 refine Pure.of rfl y1f rfl rfl rfl (az:=[.sl ((nl x).map z3m) .no, .sl ((nl y).map z3m) .no]) rfl (by simp[idsL,AV.ids,AV.cv,z2x]) fun D B clk T hB hT=> ?_
 simp only[go_sem,z0,w2y]
 refine z0t (fun m q=>∃ x':Nat,m < 1000000000∧(nl x').length≤1000∧Nat.gcd x' m=Nat.gcd x y∧q.ts 0= .sl ((nl x').map z3m) .no∧q.ts 1= .sl ((nl m).map z3m) .no∧q.h=D++[]) y ⟨x,hy,hx,rfl,rfl,rfl,rfl⟩ ?_
 rintro m ⟨ts,h,clk⟩ P ⟨x',hm,hx',hg,h0,h1,rfl⟩ hn he hr
 dsimp only at h0 h1
 rcases Nat.eq_zero_or_pos m with rfl | hpos
 ·have e1:decide ((0:Int) < ((nl 0).length:Int))=false:=by rw[z8e];rfl
  simp only[go_sem,z0,h0,h1,j7m,List.length_map,e1]
  refine he _ _ ?_
  simp only[go_sem,z0,h0]
  rw[x2r]
  rw[Nat.gcd_zero_right] at hg
  rw[hg]
  exact hT _
 ·have hnm:=x2q hpos hm
  have e1:decide ((0:Int) < ((nl m).length:Int))=true:=by rw[hnm];rfl
  simp only[go_sem,z0,h0,h1,j7m,List.length_map,e1,z0a (v2n hx' hpos hm)]
  refine hn (x' % m) _ (Nat.mod_lt _ hpos) ⟨m,Nat.lt_trans (Nat.mod_lt _ hpos) hm,by rw[hnm];simp, ?_,rfl,rfl,rfl⟩
  rw[←hg,Nat.gcd_comm x' m,Nat.gcd_rec m x',Nat.gcd_comm]
theorem x5l {a b:List Nat}:z1h (a++b)=z1h a * 10 ^ b.length + z1h b:=by
 induction a with
 | nil=>simp[z1h]
 | cons c a ih=>rw[List.cons_append,z4l,z4l,ih,List.length_append,Nat.pow_add,Nat.add_mul,Nat.mul_assoc];omega
theorem k2v {B clk:Nat} {H:List AObj} {c:List Nat} {v0 v3 v4:AV} {ts:Tmps} {ks:List Kf} {Q:Post} (hd:∀ x∈c,48≤x∧x≤57) (hl:c.length≤9) (h0:ts 0=v0) (h3:ts 3=v3) (h4:ts 4=v4) (h5:ts 5= .int .u32 0) (h20:ts 20= .sl (bytes c) .no) (h21:ts 21= .int .i64 (c.length:Int)) (h22:ts 22= .int .i64 0)
  (hQ:∀ (ts':Tmps) (clk':Nat),ts' 0=v0→ts' 3=v3→ts' 4=v4→ts' 5= .int .u32 (z1h c:Int)→K Gam B (.exit 2) ks ⟨ts',H,clk'⟩ Q):K Gam B (.loop x9z) ks ⟨ts,H,clk⟩ Q:=by
 refine z0t (fun m q=>∃ j:Nat,j≤c.length∧m=c.length - j∧q.ts 0=v0∧q.ts 3=v3∧q.ts 4=v4∧q.ts 5= .int .u32 (z1h (c.take j):Int)∧q.ts 20= .sl (bytes c) .no∧q.ts 21= .int .i64 (c.length:Int)∧q.ts 22= .int .i64 (j:Int)∧q.h=H) c.length ⟨0,by omega,rfl,h0,h3,h4,h5,h20,h21,h22,rfl⟩ ?_
 clear h0 h3 h4 h5 h20 h21 h22
 rintro m ⟨ts,h,clk⟩ P ⟨j,hj,rfl,h0,h3,h4,h5,h20,h21,h22,rfl⟩ hn he hr
 dsimp only at h0 h3 h4 h5 h20 h21 h22
 by_cases hlt:j < c.length
 ·have e1:decide ((j:Int) < (c.length:Int))=true:=by rw[decide_eq_true_iff];omega
  have hc:=hd c[j] (List.getElem_mem hlt)
  have hw:=z9o hlt
  have hb:=z5s (s:=c.take (j + 1)) fun x hx=>hd x (List.mem_of_mem_take hx)
  have hb2:10 ^ (c.take (j + 1)).length≤10 ^ 9:=Nat.pow_le_pow_right (by omega) (by rw[List.length_take];omega)
  have e2:IntKind.u8.wrap ((c[j]:Int) - 48)=((c[j] - 48:Nat):Int):=q1y hc
  have e3:IntKind.u32.wrap ((c[j] - 48:Nat):Int)=((c[j] - 48:Nat):Int):=u32_in (by omega) (by omega)
  have e4:IntKind.u32.wrap ((z1h (c.take j):Int) * 10)=((z1h (c.take j) * 10:Nat):Int):=by rw[u32_in (by omega) (by omega)];omega
  have e5:IntKind.u32.wrap (((z1h (c.take j) * 10:Nat):Int) + ((c[j] - 48:Nat):Int))=(z1h (c.take (j + 1)):Int):=by rw[u32_in (by omega) (by omega),hw];omega
  have e6:IntKind.i64.wrap ((j:Int) + 1)=((j + 1:Nat):Int):=z0c (by omega) (by omega)
  simp only[go_sem,z0,h0,h3,h4,h5,h20,h21,h22,x9z,e1,q8j hlt,e2,e3,e4,e5,e6]
  exact hn (c.length - (j + 1)) _ (by omega) ⟨j + 1,hlt,rfl,h0,h3,h4,rfl,h20,h21,rfl,rfl⟩
 ·have e1:decide ((j:Int) < (c.length:Int))=false:=by rw[decide_eq_false_iff_not];omega
  have hjc:j=c.length:=by omega
  rw[hjc,List.take_length] at h5
  simp only[go_sem,z0,h0,h3,h4,h5,h20,h21,h22,x9z,e1]
  refine he _ _ ?_
  exact hQ _ _ (by simp[z0b,h0]) (by simp[z0b,h3]) (by simp[z0b,h4]) (by simp[z0b,h5])
theorem v2p {h:List AObj} {s:List Nat} {i j:Nat} {k k':IntKind} (hij:i≤j) (hj:j≤s.length):slV h none (.str s) (some (.int k (i:Int))) (some (.int k' (j:Int))) none=some (.str ((s.take j).drop i),h):=by
 simp[slV,z2l,z4n,hij,hj]
theorem v2q {s:List Nat} (hd:∀ x∈s,48≤x∧x≤57) (hl:s.length≤1000):Pure Gam 240 [.str s] (.sl ((nl (z1h s)).map z3m) .no):=by
 refine Pure.of rfl y1e rfl rfl rfl rfl rfl fun D B clk T hB hT=> ?_
 simp only[go_sem,z0,w2x,hB]
 refine z0t (fun m q=>∃ (j:Nat) (acc:List Nat) (t:Tip) (a o:AObj),m=(s.length + 9) - 9 * j∧9 * j≤s.length + 8∧acc.length=j∧(∀ x∈acc,x < 1000000000)∧z7a acc=z1h (s.drop (s.length - 9 * j))∧q.ts 0= .str s∧q.ts 3= .sl (acc.map z3m) t∧q.ts 4= .int .i64 ((s.length:Int) - 9 * j)∧q.h=D++[a,o]∧q3t B 1 o t 1) (s.length + 9) ⟨0,[], .nil,_,_,rfl,by omega,rfl,by simp,by simp[z7a,z1h],rfl,rfl,by simp[z0b],rfl, .inl rfl⟩ ?_
 rintro m ⟨ts,h,clk⟩ P ⟨j,acc,t,a,o,rfl,hj,hal,hab,hv,h0,h3,h4,rfl,ht⟩ hn he hr
 dsimp only at h0 h3 h4
 by_cases hlt:9 * j < s.length
 ·have e1:decide ((0:Int) < (s.length:Int) - 9 * j)=true:=by rw[decide_eq_true_iff];omega
  have e0:(s.length:Int) - 9 * j=((s.length - 9 * j:Nat):Int):=by omega
  have e2:IntKind.i64.wrap ((s.length:Int) - 9 * j - 9)=(s.length:Int) - 9 * j - 9:=z0c (by omega) (by omega)
  have e3:(if (0:Int) > (s.length:Int) - 9 * j - 9 then (0:Int) else (s.length:Int) - 9 * j - 9)=((s.length - 9 * j - 9:Nat):Int):=by
   split <;> omega
  have hsl:∀ h,slV h none (.str s) (some (.int .i64 ((s.length - 9 * j - 9:Nat):Int))) (some (.int .i64 ((s.length:Int) - 9 * j))) none=some (.str ((s.take (s.length - 9 * j)).drop (s.length - 9 * j - 9)),h):=fun h=>by
   rw[e0]
   exact v2p (by omega) (by omega)
  generalize hcc:(s.take (s.length - 9 * j)).drop (s.length - 9 * j - 9)=c at hsl
  have hcl:c.length=s.length - 9 * j - (s.length - 9 * j - 9):=by rw[←hcc];simp
  have hcd:∀ x∈c,48≤x∧x≤57:=fun x hx=>by
   rw[←hcc] at hx
   exact hd x (List.mem_of_mem_take (List.mem_of_mem_drop hx))
  have hcw:=z5s hcd
  have hcw9:10 ^ c.length≤10 ^ 9:=Nat.pow_le_pow_right (by omega) (by omega)
  have hsuf:s.drop (s.length - 9 * j - 9)=c++s.drop (s.length - 9 * j):=by
   rw[←hcc,←List.drop_append_of_le_length (by simp),List.take_append_drop]
  have htb:∀ s':List Nat,(s'.map fun (b:Nat)=>AV.int .u8 (Int.ofNat b))=bytes s':=fun _=>rfl
  have hbl:(bytes c).length=c.length:=by simp[bytes]
  simp only[go_sem,z0,h0,h3,h4,j7l,e1,e2,e3,hsl,htb,hbl]
  refine k2v (v0:= .str s) (v3:= .sl (acc.map z3m) t) (v4:= .int .i64 ((s.length:Int) - 9 * j)) hcd (by omega) (by simp[z0b,h0]) (by simp[z0b,h3]) (by simp[z0b,h4]) (by simp[z0b]) (by simp[z0b]) (by simp[z0b]) (by simp[z0b]) fun ts' clk' q0 q3 q4 q5=> ?_
  simp only[go_sem,z0,q0,q3,q4,q5]
  rw[show [AV.int .u32 (z1h c:Int)]=[z1h c].map z3m from rfl,z0s hB rfl ht q8l q8l (by simp only[List.length_map,List.length_singleton];omega)]
  simp only[go_sem,z0,q0,q3,q4,q5,e2,←List.map_append]
  refine hn (s.length + 9 - 9 * (j + 1)) _ (by omega) ⟨j + 1,acc++[z1h c],_,_,_,rfl,by omega,by simp[hal], ?_, ?_,by simp[z0b,q0],by simp[z0b], ?_,rfl, .inr (.inr ⟨_,rfl,rfl⟩)⟩
  ·intro x hx
   rw[List.mem_append] at hx
   rcases hx with hx | hx
   ·exact hab x hx
   ·simp at hx;omega
  ·rw[show s.length - 9 * (j + 1)=s.length - 9 * j - 9 by omega,hsuf,x5l,q2x,hv,hal]
   have:(s.drop (s.length - 9 * j)).length=9 * j:=by simp;omega
   rw[this,Nat.pow_mul]
   simp only[z7a,Nat.mul_zero,Nat.add_zero]
   rw[Nat.mul_comm (z1h c)]
   have:(10 ^ 9:Nat)=1000000000:=by decide
   rw[this]
   omega
  ·simp only[z0b,z0,cond_true,cond_false]
   congr 1
   omega
 ·have e1:decide ((0:Int) < (s.length:Int) - 9 * j)=false:=by rw[decide_eq_false_iff_not];omega
  rw[show s.length - 9 * j=0 by omega,List.drop_zero] at hv
  have hp:=x8a (l:=acc) (t:=t) hab (by omega)
  rw[hv] at hp
  simp only[go_sem,z0,h0,h3,h4,j7l,e1]
  refine he _ _ ?_
  simp only[go_sem,z0,h3,z0a hp]
  rw[x2r]
  exact hT _
theorem x5m {h:List AObj}:z7j h .neq .iface .nilif .nilif=some (.bool false,h):=(rfl)
theorem w3y {h:List AObj}:z7j h .shl (.one .int) (.int .u64 1) (.int .u64 64)=some (.int .u64 0,h):=by
 have:IntKind.u64.wrap (2 ^ min 64 IntKind.u64.bits)=0:=by decide
 simp[z7j,z4o,q6e,this]
theorem w3z {h:List AObj}:z7j h .shl (.one .int) (.int .u64 1) (.int .u64 63)=some (.int .u64 9223372036854775808,h):=by
 have:IntKind.u64.wrap (2 ^ min 63 IntKind.u64.bits)=9223372036854775808:=by decide
 simp[z7j,z4o,q6e,this]
theorem v2r {n:Nat} (hn:n < 1000000000):Pure Gam 250 [.str (dec n), .int .i64 10, .int .i64 64] (.tup [.int .u64 (n:Int), .nilif]):=by
 refine Pure.of rfl y1c rfl rfl rfl rfl rfl fun D B clk T hB hT=> ?_
 have hd:=z1g n
 have hl:(dec n).length≤9:=z8a (by omega) hn
 have e1:decide (dec n=[])=false:=by simp[z7z n]
 have w1:IntKind.u64.wrap 64=64:=by decide
 have w2:IntKind.u64.wrap (0 - 1)=18446744073709551615:=by decide
 have htb:((dec n).map fun (b:Nat)=>AV.int .u8 (Int.ofNat b))=bytes (dec n):=rfl
 simp only[go_sem,z0,w2v,e1,Int.reduceEq,Int.reduceLE,Int.reduceLT,decide_true,decide_false,w1,w3y,w2,htb,q3y]
 refine z0t (fun m q=>∃ j:Nat,j≤(dec n).length∧m=(dec n).length - j∧q.ts 1= .int .i64 10∧q.ts 8= .bool false∧q.ts 10= .int .u64 1844674407370955162∧q.ts 11= .int .u64 18446744073709551615∧q.ts 12= .bool false∧q.ts 13= .int .u64 (z1h ((dec n).take j):Int)∧q.ts 99= .sl (bytes (dec n)) .no∧q.ts 100= .int .i64 ((dec n).length:Int)∧q.ts 101= .int .i64 (j:Int)∧q.h=D++[]) (dec n).length ⟨0,by omega,rfl,rfl,rfl,rfl,rfl,rfl,rfl,rfl,rfl,rfl,rfl⟩ ?_
 rintro m ⟨ts,h,clk⟩ P ⟨j,hj,rfl,h1,h8,h10,h11,h12,h13,h99,h100,h101,rfl⟩ hn' he hr
 dsimp only at h1 h8 h10 h11 h12 h13 h99 h100 h101
 by_cases hlt:j < (dec n).length
 ·have f1:decide ((j:Int) < ((dec n).length:Int))=true:=by rw[decide_eq_true_iff];omega
  have hc:=hd _ (List.getElem_mem hlt)
  have hw:=z9o hlt
  have hb:=z5s (s:=(dec n).take (j + 1)) fun x hx=>hd x (List.mem_of_mem_take hx)
  have hb2:10 ^ ((dec n).take (j + 1)).length≤10 ^ 9:=Nat.pow_le_pow_right (by omega) (by rw[List.length_take];omega)
  generalize hcc:(dec n)[j]=c at hc hw
  have hidx:∀ h,z1t h 1 (.sl (bytes (dec n)) .no) (.int .i64 (j:Int))=some (.iptr [.int .u8 (c:Int)] 0,h):=fun h=>by rw[q8j hlt,hcc]
  have f2:decide ((c:Int)=95)=false:=by rw[decide_eq_false_iff_not];omega
  have f3:decide ((48:Int)≤(c:Int))=true:=by rw[decide_eq_true_iff];omega
  have f4:decide ((c:Int)≤57)=true:=by rw[decide_eq_true_iff];omega
  have f5:IntKind.u8.wrap ((c:Int) - 48)=((c - 48:Nat):Int):=q1y hc
  have f6:IntKind.u8.wrap 10=10:=by decide
  have f7:decide ((10:Int)≤((c - 48:Nat):Int))=false:=by rw[decide_eq_false_iff_not];omega
  have f8:decide ((1844674407370955162:Int)≤(z1h ((dec n).take j):Int))=false:=by rw[decide_eq_false_iff_not];omega
  have f9:IntKind.u64.wrap 10=10:=by decide
  have f10:IntKind.u64.wrap ((z1h ((dec n).take j):Int) * 10)=((z1h ((dec n).take j) * 10:Nat):Int):=by rw[u64_in (by omega) (by omega)];omega
  have f11:IntKind.u64.wrap ((c - 48:Nat):Int)=((c - 48:Nat):Int):=u64_in (by omega) (by omega)
  have f12:IntKind.u64.wrap (((z1h ((dec n).take j) * 10:Nat):Int) + ((c - 48:Nat):Int))=(z1h ((dec n).take (j + 1)):Int):=by rw[u64_in (by omega) (by omega),hw];omega
  have f13:decide ((z1h ((dec n).take (j + 1)):Int) < ((z1h ((dec n).take j) * 10:Nat):Int))=false:=by rw[decide_eq_false_iff_not];omega
  have f14:decide ((18446744073709551615:Int) < (z1h ((dec n).take (j + 1)):Int))=false:=by rw[decide_eq_false_iff_not];omega
  have f15:IntKind.i64.wrap ((j:Int) + 1)=((j + 1:Nat):Int):=z0c (by omega) (by omega)
  simp only[go_sem,z0,h1,h8,h10,h11,h12,h13,h99,h100,h101,j7j,f1,hidx,f2,f3,f4,f5,f6,f7,f8,f9,f10,f11,f12,f13,f14,f15]
  exact hn' ((dec n).length - (j + 1)) _ (by omega) ⟨j + 1,hlt,rfl,h1,h8,h10,h11,h12,rfl,h99,h100,rfl,rfl⟩
 ·have f1:decide ((j:Int) < ((dec n).length:Int))=false:=by rw[decide_eq_false_iff_not];omega
  have hjc:j=(dec n).length:=by omega
  rw[hjc,List.take_length,z2b] at h13
  simp only[go_sem,z0,h1,h8,h10,h11,h12,h13,h99,h100,h101,j7j,f1]
  refine he _ _ ?_
  simp only[go_sem,z0,h12,h13]
  rw[z0h rfl rfl]
  exact hT _
theorem v2s {n:Nat} (hn:n < 1000000000):Pure Gam 245 [.str (dec n), .int .i64 10, .int .i64 64] (.tup [.int .i64 (n:Int), .nilif]):=by
 refine Pure.of rfl y1b rfl rfl rfl rfl rfl fun D B clk T hB hT=> ?_
 obtain⟨c,t,hct⟩:=List.exists_cons_of_ne_nil (z7z n)
 have hc:=z1g n c (by rw[hct];exact List.mem_cons_self)
 have e1:decide (dec n=[])=false:=by simp[z7z n]
 have e2:∀ h k,q3s h (.str (dec n)) (.int k 0)=some (.int .u8 (c:Int),h):=fun h k=>by rw[hct];exact z5o
 have e3:decide ((c:Int)=43)=false:=by rw[decide_eq_false_iff_not];omega
 have e4:decide ((c:Int)=45)=false:=by rw[decide_eq_false_iff_not];omega
 have e5:IntKind.i64.wrap (64 - 1)=63:=by decide
 have e6:IntKind.u64.wrap 63=63:=by decide
 have e7:decide ((9223372036854775808:Int)≤(n:Int))=false:=by rw[decide_eq_false_iff_not];omega
 have e8:IntKind.i64.wrap (n:Int)=(n:Int):=z0c (by omega) (by omega)
 simp only[go_sem,z0,w2u,e1,e2,e3,e4,z0a (v2r hn),x5m,Int.reduceEq,decide_false,e5,e6,w3z,Bool.not_false,e7,e8]
 rw[z0h rfl rfl]
 exact hT _
theorem x2s {n:Nat} (hn:n < 1000000000):Pure Gam 238 [.str (dec n), .int .i64 10, .int .i64 64] (.tup [.int .i64 (n:Int), .nilif]):=by
 refine Pure.of rfl y1a rfl rfl rfl rfl rfl fun D B clk T hB hT=> ?_
 simp only[go_sem,z0,w2t,z0a (v2s hn),x5m]
 rw[z0h rfl rfl]
 exact hT _
theorem v2t {a b:Nat} (hb:b < 2 ^ 62):Pure Gam 239 [.int .i64 (a:Int), .int .i64 (b:Int)] (.int .i64 (Nat.gcd a b:Int)):=by
 refine Pure.of rfl y1d rfl rfl rfl rfl rfl fun D B clk T hB hT=> ?_
 simp only[go_sem,z0,w2w]
 refine z0t (fun m q=>∃ x:Nat,m < 2 ^ 62∧Nat.gcd x m=Nat.gcd a b∧q.ts 0= .int .i64 (x:Int)∧q.ts 1= .int .i64 (m:Int)∧q.h=D++[]) b ⟨a,hb,rfl,rfl,rfl,rfl⟩ ?_
 rintro m ⟨ts,h,clk⟩ P ⟨x,hm,hg,h0,h1,rfl⟩ hn he hr
 dsimp only at h0 h1
 rcases Nat.eq_zero_or_pos m with rfl | hpos
 ·simp only[go_sem,z0,h0,h1,j7k,decide_true,Bool.not_true]
  refine he _ _ ?_
  simp only[go_sem,z0,h0]
  rw[z2h]
  rw[Nat.gcd_zero_right] at hg
  rw[hg]
  exact hT _
 ·have e1:decide ((m:Int)=0)=false:=by rw[decide_eq_false_iff_not];omega
  have e2:((x:Int)).tmod (m:Int)=((x % m:Nat):Int):=IntWalk.up_tmod rfl rfl
  simp only[go_sem,z0,h0,h1,j7k,e1,Bool.not_false,q7x (b:=(m:Int)) (by omega),e2]
  have hlt:=Nat.mod_lt x hpos
  refine hn (x % m) _ hlt ⟨m,by omega, ?_,rfl,rfl,rfl⟩
  rw[←hg,Nat.gcd_comm x m,Nat.gcd_rec m x,Nat.gcd_comm]
def x5n (n:Nat):Option Nat→List Nat
 | none=>dec n
 | some d=>dec n++47::dec d
def x2t (neg:Bool) (n:Nat) (d:Option Nat):List Nat:=if neg then 45::x5n n d else x5n n d
structure NumT (neg:Bool) (n:Nat) (d:Option Nat):Prop where
 pos:neg=true→n≠0
 len:n < 10 ^ 40
 den:∀ k,d=some k→2≤k∧k≤4∧Nat.gcd n k=1
theorem RatS.text {a:List Nat} (h:RatS a):∃ neg n d,a=x2t neg n d∧NumT neg n d:=by
 rcases h with ⟨z,rfl,h⟩ | ⟨z,d,rfl,h,h2,h4,hg⟩
 ·refine⟨decide (z < 0),z.natAbs,none, ?_,⟨fun hz=> ?_,h,by simp⟩⟩
  ·unfold z2s x2t x5n
   by_cases hz:z < 0 <;> simp[hz]
  ·simp at hz;omega
 ·refine⟨decide (z < 0),z.natAbs,some d, ?_,⟨fun hz=> ?_,h,fun k hk=>by injection hk with hk;subst hk;exact⟨h2,h4,hg⟩⟩⟩
  ·unfold z2s x2t x5n
   by_cases hz:z < 0 <;> simp[hz]
  ·simp at hz;omega
def v2u:Option Nat→List Nat
 | none=>[]
 | some d=>dec d
theorem w4a {n:Nat}:∀ c∈dec n,c≠47:=fun c hc=>by have:=z1g n c hc;omega
theorem x2u {neg:Bool} {n:Nat} {d:Option Nat}:Pure Gam 231 [.str (x2t neg n d), .str [45]] (.tup [.str (x5n n d), .bool neg]):=by
 cases neg
 ·obtain⟨c,t,hct⟩:=List.exists_cons_of_ne_nil (z7z n)
  have hc:=z1g n c (by rw[hct];exact List.mem_cons_self)
  have hb:∃ t',x5n n d=c::t':=by cases d <;> simp[x5n,hct]
  obtain⟨t',ht⟩:=hb
  simp only[x2t,Bool.false_eq_true,if_false,ht]
  exact q8i (by omega)
 ·exact q8h
theorem x2v {n:Nat} {d:Option Nat} (hl:(dec n).length≤1000):Pure Gam 237 [.str (x5n n d), .str [47]] (.tup [.str (dec n), .str (v2u d), .bool d.isSome]):=by
 cases d
 ·exact x5i (z7z n) w4a
 ·exact j2o (z7z n) w4a hl
theorem q8n {d:Nat} (h:d≤4):(dec d).length≤1:=by rw[z8z (by omega)];simp
theorem x8b {neg:Bool} {n:Nat} {d:Option Nat} (hl:(dec n).length≤1000) (h9:9 < (dec n).length):Pure Gam 234 [.str (x2t neg n d)] (.tup [.agg [.int .i64 0, .int .i64 0], .bool false]):=by
 refine Pure.of rfl w2m rfl rfl rfl rfl rfl fun D B clk T hB hT=> ?_
 have e1:decide ((9:Int) < ((dec n).length:Int))=true:=by rw[decide_eq_true_iff];omega
 simp only[go_sem,z0,z1,z2,z3,reduceCtorEq,↓reduceIte,v1q,hB,z0a x2u,z0a (x2v hl),e1,z1c,z1b,z0j]
 rw[z0h rfl rfl]
 exact hT _
theorem x2w {neg:Bool} {n:Nat} {d:Option Nat} (ht:NumT neg n d) (h9:(dec n).length≤9) (hn:n < 1000000000):∃ p q:Int,Pure Gam 234 [.str (x2t neg n d)] (.tup [.agg [.int .i64 p, .int .i64 q], .bool true]):=by
 refine⟨if neg then IntKind.i64.wrap (0 - (n:Int)) else n,(d.getD 1:Nat), ?_⟩
 refine Pure.of rfl w2m rfl rfl rfl rfl rfl fun D B clk T hB hT=> ?_
 have e1:decide ((9:Int) < ((dec n).length:Int))=false:=by rw[decide_eq_false_iff_not];omega
 have hden:(v2u d).length≤1:=by
  cases d with
  | none=>simp[v2u]
  | some k=>exact q8n (ht.den k rfl).2.1
 have e2:decide ((9:Int) < ((v2u d).length:Int))=false:=by rw[decide_eq_false_iff_not];omega
 have hp1:=q4z (n:=n) (by omega)
 have e3:decide (dec n=[48])=decide (n=0):=z3j
 simp only[go_sem,z0,z1,z2,z3,reduceCtorEq,↓reduceIte,v1q,hB,z0a x2u,z0a (x2v (n:=n) (d:=d) (by omega)),e1,e2,z0a hp1,Bool.not_true,e3]
 have hfin:∀ (r:Int),r=(if neg then IntKind.i64.wrap (0 - (n:Int)) else n)→∀ h',T (.tup [.agg [.int .i64 r, .int .i64 (d.getD 1:Nat)], .bool true]) h':=fun r hr h'=>hr ▸ hT h'
 rcases Nat.eq_zero_or_pos n with rfl | hpos
 ·have hneg:neg=false:=by cases neg with
   | false=>rfl
   | true=>exact absurd rfl (ht.pos rfl)
  have hd0:d=none:=by cases d with
   | none=>rfl
   | some k=>have:=ht.den k rfl;rw[Nat.gcd_zero_left] at this;omega
  subst hneg;subst hd0
  simp only[go_sem,z0,z1,z2,z3,reduceCtorEq,↓reduceIte,decide_true,Option.isSome_none,z0a (x2s (n:=0) (by omega)),hB,z1c,z1b,z0j]
  rw[z0h rfl rfl]
  exact hfin _ rfl _
 ·have e4:decide (n=0)=false:=by rw[decide_eq_false_iff_not];omega
  simp only[go_sem,z0,z1,z2,z3,reduceCtorEq,↓reduceIte,e4,z0a (x2s hn)]
  cases d with
  | none=>
    cases neg
    ·simp only[go_sem,z0,z1,z2,z3,reduceCtorEq,↓reduceIte,Option.isSome_none,hB,z1c,z1b,z0j]
     rw[z0h rfl rfl]
     exact hfin _ rfl _
    ·simp only[go_sem,z0,z1,z2,z3,reduceCtorEq,↓reduceIte,Option.isSome_none,hB,z1c,z1b,z0j]
     rw[z0h rfl rfl]
     exact hfin _ rfl _
  | some k=>
    obtain⟨hk2,hk4,hg⟩:=ht.den k rfl
    have hp2:=q4z (n:=k) (by have:=q8n hk4;omega)
    have e5:decide ((k:Int) < 2)=false:=by rw[decide_eq_false_iff_not];omega
    have hp3:=v2t (a:=n) (b:=k) (by omega)
    rw[hg] at hp3
    cases neg
    ·simp only[go_sem,z0,z1,z2,z3,reduceCtorEq,↓reduceIte,Option.isSome_some,v2u,z0a hp2,Bool.not_true,z0a (x2s (n:=k) (by omega)),e5,z0a hp3,decide_true,hB,z1c,z1b,z0j]
     rw[z0h rfl rfl]
     exact hfin _ rfl _
    ·simp only[go_sem,z0,z1,z2,z3,reduceCtorEq,↓reduceIte,Option.isSome_some,v2u,z0a hp2,Bool.not_true,z0a (x2s (n:=k) (by omega)),e5,z0a hp3,decide_true,hB,z1c,z1b,z0j]
     rw[z0h rfl rfl]
     exact hfin _ rfl _
theorem w4b {n:Nat} (hn:n < 10 ^ 40):(nl n).length≤5:=w3x (k:=5) (by
 have:(1000000000:Nat) ^ 5=10 ^ 45:=by decide
 rw[this]
 have:(10:Nat) ^ 40≤10 ^ 45:=Nat.pow_le_pow_right (by omega) (by omega)
 omega)
theorem j0e {n:Nat} (hl:(dec n).length≤1000):Pure Gam 240 [.str (dec n)] (.sl ((nl n).map z3m) .no):=by
 have:=v2q (s:=dec n) (z1g n) hl
 rwa [z2b] at this
theorem v2v {neg:Bool} {n:Nat} {d:Option Nat} (ht:NumT neg n d):∃ v:AV,v.ids=[]∧v.obs=[]∧(∃ a b c,v= .agg [.bool a, .sl b .no, .sl c .no])∧Pure Gam 235 [.str (x2t neg n d)] (.tup [v, .bool true]):=by
 have hlen:(dec n).length≤40:=z8a (by omega) ht.len
 have hp1:=q4z (n:=n) (by omega)
 have hpn:=j0e (n:=n) (by omega)
 have e3:decide (dec n=[48])=decide (n=0):=z3j
 have e13:decide (dec n=[48])=true→neg=false∧d=none:=by
  rw[e3,decide_eq_true_iff]
  rintro rfl
  refine⟨?_, ?_⟩
  ·cases neg with
   | false=>rfl
   | true=>exact absurd rfl (ht.pos rfl)
  ·cases d with
   | none=>rfl
   | some k=>have:=ht.den k rfl;rw[Nat.gcd_zero_left] at this;omega
 have w1:(AV.sl [.int .u32 1] .full).cv= .sl ([1].map z3m) .no:=rfl
 cases d with
 | none=>
   refine⟨.agg [.bool neg, .sl ((nl n).map z3m) .no, .sl ([1].map z3m) .no],by simp[AV.ids,idsL,z2x,z3m],rfl,⟨_,_,_,rfl⟩, ?_⟩
   refine Pure.of rfl w2n rfl rfl rfl rfl rfl fun D B clk T hB hT=> ?_
   simp only[go_sem,z0,z1,z2,z3,reduceCtorEq,↓reduceIte,v1r,hB,z0a x2u,z0a (x2v (n:=n) (d:=none) (by omega)),z0a hp1,Bool.not_true,Option.isSome_none]
   have key:∀ x:Bool,decide (dec n=[48])=x→T (.tup [.agg [.bool neg, .sl ((nl n).map z3m) .no, .sl [.int .u32 1] .no], .bool true])=T (.tup [.agg [.bool neg, .sl ((nl n).map z3m) .no, .sl ([1].map z3m) .no], .bool true]):=fun _ _=>rfl
   cases hz:decide (dec n=[48]) with
   | true=>
     obtain⟨rfl,_⟩:=e13 hz
     simp only[go_sem,z0,z1,z2,z3,reduceCtorEq,↓reduceIte,z0a hpn,hB,Bool.not_false,z1c,z1b,z0j]
     rw[z0h rfl (by simp[z1o,AV.cv,cvL,AV.ids,idsL,z2x,z3m])]
     exact hT _
   | false=>
     simp only[go_sem,z0,z1,z2,z3,reduceCtorEq,↓reduceIte,z0a hpn,hB,Bool.not_false,z1c,z1b,z0j]
     rw[z0h rfl (by simp[z1o,AV.cv,cvL,AV.ids,idsL,z2x,z3m])]
     exact hT _
 | some k=>
   obtain⟨hk2,hk4,hg⟩:=ht.den k rfl
   have hnz:decide (dec n=[48])=false:=by
    cases hz:decide (dec n=[48]) with
    | false=>rfl
    | true=>exact absurd (e13 hz).2 (by simp)
   have hkl:=q8n hk4
   have hp2:=q4z (n:=k) (by omega)
   have hpk:=j0e (n:=k) (by omega)
   have e5:decide (dec k=[48])=false:=by rw[z3j,decide_eq_false_iff_not];omega
   have e6:decide (dec k=[49])=false:=by rw[q4y,decide_eq_false_iff_not];omega
   have hpg:=v2o (x:=n) (y:=k) (by have:=w4b ht.len;omega) (by omega)
   rw[hg,show nl 1=[1] from x2q (by omega) (by omega)] at hpg
   have hpo:=v2l (l:=[1])
   have e7:decide (([1]:List Nat)=[1])=true:=rfl
   rw[e7,List.map_cons,List.map_nil] at hpo
   refine⟨.agg [.bool neg, .sl ((nl n).map z3m) .no, .sl ((nl k).map z3m) .no],by simp[AV.ids,idsL,z2x,z3m],rfl,⟨_,_,_,rfl⟩, ?_⟩
   refine Pure.of rfl w2n rfl rfl rfl rfl rfl fun D B clk T hB hT=> ?_
   simp only[go_sem,z0,z1,z2,z3,reduceCtorEq,↓reduceIte,v1r,hB,z1y,z0a x2u,z0a (x2v (n:=n) (d:=some k) (by omega)),z0a hp1,Bool.not_true,Option.isSome_some,hnz,z0a hpn,v2u,z0a hp2,e5,e6,z0a hpk,z0a hpg,z0a hpo,z1c,z1b,z0j]
   refine⟨by simp[z1r,apart,z0q,z1l,z1v,AOp.isCall,hB], ?_⟩
   rw[z0h rfl (by simp[z1o,AV.cv,cvL,AV.ids,idsL,z2x,z3m])]
   exact hT _
theorem j7w {neg:Bool} {n:Nat} {d:Option Nat} (ht:NumT neg n d):Pure Gam 230 [.str (x2t neg n d)] (.bool true):=by
 have hlen:(dec n).length≤40:=z8a (by omega) ht.len
 by_cases h9:9 < (dec n).length
 ·have hp1:=x8b (neg:=neg) (n:=n) (d:=d) (by omega) h9
  obtain⟨v,hv1,hv2,⟨a,b,c,rfl⟩,hp2⟩:=v2v ht
  refine Pure.of rfl w2h rfl rfl rfl rfl rfl fun D B clk T hB hT=> ?_
  simp only[go_sem,z0,z1,z2,z3,reduceCtorEq,↓reduceIte,v1m,hB,z0a hp1,z0a hp2]
  rw[z0f]
  exact hT _
 ·have hn:n < 1000000000:=by
   have h1:=z5s (z1g n)
   rw[z2b] at h1
   have h2:10 ^ (dec n).length≤10 ^ 9:=Nat.pow_le_pow_right (by omega) (by omega)
   omega
  obtain⟨p,q,hp⟩:=x2w ht (by omega) hn
  refine Pure.of rfl w2h rfl rfl rfl rfl rfl fun D B clk T hB hT=> ?_
  simp only[go_sem,z0,z1,z2,z3,reduceCtorEq,↓reduceIte,v1m,hB,z0a hp]
  rw[z0f]
  exact hT _
theorem v2w {k:Nat} (h1:1≤k) (h5:k≤5):Pure Gam 225 [.str (dec k)] (.int .i64 1):=by
 have hv:Pure Gam 230 [.str (dec k)] (.bool true):=j7w (neg:=false) (n:=k) (d:=none) ⟨by simp,by omega,by simp⟩
 have e1:decide (dec k=[48])=false:=by rw[z3j,decide_eq_false_iff_not];omega
 have e2:∀ h q,q3s h (.str (dec k)) (.int q 0)=some (.int .u8 ((48 + k:Nat):Int),h):=fun h q=>by rw[z8z (by omega)];exact z5o
 have e3:decide (((48 + k:Nat):Int)=45)=false:=by rw[decide_eq_false_iff_not];omega
 refine Pure.of rfl y1u rfl rfl rfl rfl rfl fun D B clk T hB hT=> ?_
 simp only[go_sem,z0,w3r,z0a hv,Bool.not_true,e1,e2,e3]
 rw[z2h]
 exact hT _
theorem x8c {a:List Nat} (h:IntS a):Pure Gam 222 [.int .i64 2, .str a] (.bool true):=by
 obtain⟨z,rfl,hz⟩:=h
 have hlen:(dec z.natAbs).length≤40:=z8a (by omega) hz
 have hp:=j7r (z:=z) (by omega)
 refine Pure.of rfl w3p rfl rfl rfl rfl rfl fun D B clk T hB hT=> ?_
 simp only[go_sem,z0,v2c,Int.reduceEq,decide_true,z0a hp]
 rw[z0f]
 exact hT _
theorem x5o {a:List Nat} (h:RatS a):Pure Gam 222 [.int .i64 3, .str a] (.bool true):=by
 obtain⟨neg,n,d,rfl,ht⟩:=h.text
 refine Pure.of rfl w3p rfl rfl rfl rfl rfl fun D B clk T hB hT=> ?_
 simp only[go_sem,z0,v2c,Int.reduceEq,decide_true,decide_false,z0a (j7w ht)]
 rw[z0f]
 exact hT _
def Has (S:List (Nat×AObj)) (h:List AObj):Prop:=∀ p∈S,h[p.1]? =some p.2
theorem Has.lt {S:List (Nat×AObj)} {h:List AObj} (hS:Has S h):∀ p∈S,p.1 < h.length:=fun p hp=>by
 have:=hS p hp
 rw[List.getElem?_eq_some_iff] at this
 exact this.1
theorem Has.app {S:List (Nat×AObj)} {D L:List AObj} (hS:Has S D):Has S (D++L):=fun p hp=>by
 rw[List.getElem?_append_left (hS.lt p hp)]
 exact hS p hp
theorem Has.nil {h:List AObj}:Has [] h:=fun p hp=>by simp at hp
theorem Has.cons {p:Nat×AObj} {S:List (Nat×AObj)} {h:List AObj} (h1:h[p.1]? =some p.2) (h2:Has S h):Has (p::S) h:=fun q hq=>by
 rw[List.mem_cons] at hq
 rcases hq with rfl | hq
 ·exact h1
 ·exact h2 q hq
theorem z6h {h:List AObj}:∀ {n:Nat} {seen z8o:List Nat} {s:Nat},s∈seen∨s∈z8o→s∈reach h n seen z8o
 | 0,seen,z8o,s,hs=>by
   simp only[reach,List.mem_append]
   exact hs
 | n + 1,seen,[],s,hs=>by
   simp only[reach]
   simpa using hs
 | n + 1,seen,t::z8o,s,hs=>by
   simp only[reach]
   split
   ·rename_i hc
    refine z6h ?_
    rcases hs with hs | hs
    ·exact .inl hs
    ·rw[List.mem_cons] at hs
     rcases hs with rfl | hs
     ·exact .inl (by simpa using hc)
     ·exact .inr hs
   ·refine z6h ?_
    rcases hs with hs | hs
    ·exact .inl (List.mem_cons_of_mem _ hs)
    ·rw[List.mem_cons] at hs
     rcases hs with rfl | hs
     ·exact .inl List.mem_cons_self
     ·exact .inr (List.mem_append_right _ hs)
theorem z9q {h:List AObj} {n s:Nat} {seen z8o:List Nat} {o:AObj} (hns:s∉seen) (ho:h[s]? =some o):reach h (n + 1) seen (s::z8o)=reach h n (s::seen) (o.ids++z8o):=by
 simp[reach,hns,ho]
theorem q8o {h:List AObj} {S:List (Nat×AObj)} (hS:Has S h) (hc:∀ p∈S,∀ i∈p.2.ids,i∈S.map (·.1)):∀ {n:Nat} {seen z8o:List Nat},(∀ i∈seen,i∈S.map (·.1))→(∀ i∈z8o,i∈S.map (·.1))→∀ i∈reach h n seen z8o,i∈S.map (·.1)
 | 0,seen,z8o,h1,h2,i,hi=>by
   simp only[reach,List.mem_append] at hi
   exact hi.elim (h1 i) (h2 i)
 | n + 1,seen,[],h1,h2,i,hi=>by
   simp only[reach] at hi
   exact h1 i hi
 | n + 1,seen,t::z8o,h1,h2,i,hi=>by
   simp only[reach] at hi
   split at hi
   ·exact q8o hS hc h1 (fun j hj=>h2 j (List.mem_cons_of_mem _ hj)) i hi
   ·have ht:=h2 t List.mem_cons_self
    obtain⟨p,hp,rfl⟩:=List.mem_map.1 ht
    rw[hS p hp] at hi
    refine q8o hS hc (fun j hj=> ?_) (fun j hj=> ?_) i hi
    ·rw[List.mem_cons] at hj
     rcases hj with rfl | hj
     ·exact ht
     ·exact h1 j hj
    ·simp only[Option.map_some,Option.getD_some,List.mem_append] at hj
     rcases hj with hj | hj
     ·exact hc p hp j hj
     ·exact h2 j (List.mem_cons_of_mem _ hj)
structure Cov (S:List (Nat×AObj)) (ids:List Nat):Prop where
 root:∀ i∈ids,i∈S.map (·.1)
 closed:∀ p∈S,∀ i∈p.2.ids,i∈S.map (·.1)
 cover:∀ h,Has S h→∀ p∈S,p.1∈reach h (h.length + 1) [] ids
theorem Cov.one {s:Nat} {o:AObj} (ho:o.ids=[]):Cov [(s,o)] [s]:=by
 refine⟨by simp,by simp[ho],fun h hS p hp=> ?_⟩
 simp at hp
 subst hp
 exact z6h (.inr List.mem_cons_self)
theorem Cov.two {s t:Nat} {o q:AObj} (ho:o.ids=[t]) (hq:q.ids=[]):Cov [(s,o),(t,q)] [s]:=by
 refine⟨by simp,by simp[ho,hq],fun h hS p hp=> ?_⟩
 have h1:h[s]? =some o:=hS (s,o) (by simp)
 have hr:reach h (h.length + 1) [] [s]=reach h h.length [s] [t]:=by rw[z9q (by simp) h1,ho];rfl
 rw[hr]
 simp at hp
 rcases hp with rfl | rfl
 ·exact z6h (.inl List.mem_cons_self)
 ·exact z6h (.inr List.mem_cons_self)
def Reads (S:List (Nat×AObj)) (f:Nat) (args:List AV) (v:AV):Prop:=
 ∀ h clk,Has S h→(∃ k,z5i Gam k f args h clk=some (v,h,clk))∧∀ x∈z0v Gam f args h,x∈S.map (·.1)
theorem x1f {T:List Nat}:∀ {h h':List AObj} {k:Nat},(∀ i,i < h.length→T.contains (k + i)=true→h'[i]? =h[i]?)→z0m T k h h'=h
 | [],[],_,_=>rfl
 | [],_::_,_,_=>rfl
 | o::h,[],_,_=>rfl
 | o::h,o'::h',k,hh=>by
   have h0:T.contains k=true→o'=o:=fun hc=>by simpa using hh 0 (by simp) hc
   have h1:=x1f (T:=T) (h:=h) (h':=h') (k:=k + 1) fun i hi hc=>by
    have:=hh (i + 1) (by simpa using hi) (by rw[show k + (i + 1)=k + 1 + i by omega];exact hc)
    simpa using this
   simp only[z0m,h1]
   split
   ·rename_i hc
    rw[h0 hc]
   ·rfl
theorem Reads.of {S:List (Nat×AObj)} {f:Nat} {args az:List AV} {v:AV} {af:AFun} (hext:Gam.ext f=none) (hfn:Gam.fn f=some af) (hb:af.byref=[]) (ho:af.owned=false) (hobs:z4x args=[]) (has:cvL args=az) (hC:Cov S (idsL az))
  (hw:∀ (D:List AObj) (B clk:Nat) (R:AV→List AObj→Prop),D.length=B→Has S D→(∀ p∈S,p.1 < B)→(∀ h',Has S h'→R v h')→K Gam B af.body [] ⟨z9h az,D++List.replicate af.nslots .dead,clk⟩ (j4p (S.map (·.1)) af.results R)):Reads S f args v:=by
 intro h clk hS
 have hp:z1f h af.byref 0 args=some az:=by rw[hb,z1k hobs,has]
 have hl:z0n af.byref 0 args=[]:=by rw[hb];exact z5b hobs
 have hTS:∀ i∈reach h (h.length + 1) [] (idsL az),i∈S.map (·.1):=q8o hS hC.closed (by simp) hC.root
 refine⟨?_, ?_⟩
 ·have hmask:Has S (maskFrom (reach h (h.length + 1) [] (idsL az)) 0 h):=fun p hp'=>by
   rw[x4r (by rw[Nat.zero_add,List.contains_eq_mem];exact decide_eq_true (hC.cover h hS p hp'))]
   exact hS p hp'
  obtain⟨k,e,s1,he,hend⟩:=hw (maskFrom (reach h (h.length + 1) [] (idsL az)) 0 h) _ clk (fun v' h'=>v'=v∧Has S h') rfl hmask (fun p hp'=>by rw[z3v];exact hS.lt p hp') (fun h' hh=>⟨rfl,hh⟩)
  obtain⟨hne,vs,v',hr,hc,hv,hno,rfl,hS'⟩:=x2a hend
  rw[z3v] at he
  refine⟨k, ?_⟩
  have hfz:∀ p∈S,(freezeAll s1.h (z1o vs).obs)[p.1]? =some p.2:=fun p hp'=>by
   rw[q4t]
   ·exact hS' p hp'
   ·rw[List.all_eq_true]
    intro q hq
    have:=hno
    simp only[x4t,List.all_eq_true] at this
    have hq':=this q hq
    simp only[Bool.not_eq_true',List.contains_eq_mem,decide_eq_false_iff_not,List.mem_map] at hq'
    simp only[Bool.not_eq_true',List.contains_eq_mem,decide_eq_false_iff_not,List.mem_singleton]
    exact fun hqp=>hq' ⟨p,hp',hqp.symm⟩
  have hm:z0m (reach h (h.length + 1) [] (idsL az)) 0 h (freezeAll s1.h (z1o vs).obs)=h:=by
   refine x1f fun i hi hc'=> ?_
   rw[Nat.zero_add,List.contains_eq_mem,decide_eq_true_iff] at hc'
   obtain⟨p,hp',rfl⟩:=List.mem_map.1 (hTS i hc')
   rw[hfz p hp',hS p hp']
  have hall:((v'.ids++(List.map (fun i=>(Option.map AObj.ids (freezeAll s1.h (z1o vs).obs)[i]?).getD []) (reach h (h.length + 1) [] (idsL az))).flatten).all fun x=>decide (x < h.length))=true:=by
   rw[hv,List.nil_append,List.all_eq_true]
   intro x hx
   rw[List.mem_flatten] at hx
   obtain⟨l,hl',hxl⟩:=hx
   obtain⟨i,hi,rfl⟩:=List.mem_map.1 hl'
   obtain⟨p,hp',rfl⟩:=List.mem_map.1 (hTS i hi)
   rw[hfz p hp'] at hxl
   simp only[Option.map_some,Option.getD_some] at hxl
   obtain⟨q,hq,rfl⟩:=List.mem_map.1 (hC.closed p hp' x hxl)
   exact decide_eq_true (hS.lt q hq)
  unfold z5i z0i
  simp only[hext,hfn,hp,hl,freezeAll,he,ho,Bool.false_eq_true,if_false,hr,hc,ite_self,hm]
  cases e with
  | exit i=>exact absurd rfl (hne i)
  | norm=>simp only[hall,if_true]
  | ret=>simp only[hall,if_true]
 ·intro x hx
  unfold z0v at hx
  simp only[hext,hfn,hp,hobs,List.map_nil,List.nil_append] at hx
  exact hTS x hx
theorem z0w {f base gg clk:Nat} {args:List AV} {S:List (Nat×AObj)} {h:List AObj} {v:AV} {dst:Option Nat} {os:List AOper} {ts:Tmps} {ks:List Kf} {Q:Post} (hr:Reads S f args v) (hh:Has S h):
  CK Gam base f args h clk .plain dst gg os ts ks Q=O Gam base .plain (gg + 1) os ⟨z8n ts dst v,h,clk⟩ ks Q:=by
 obtain⟨⟨k,hk⟩,_⟩:=hr h clk hh
 unfold CK
 apply propext
 constructor
 ·rintro ⟨k',v',h',c,hc,hq⟩
  have:=q7s hk hc
  simp only[Prod.mk.injEq] at this
  obtain⟨rfl,rfl,rfl⟩:=this
  exact hq
 ·intro hq
  exact⟨k,_,_,_,hk,hq⟩
theorem Pure.reads {S:List (Nat×AObj)} {f:Nat} {args:List AV} {v:AV} (hp:Pure Gam f args v):Reads S f args v:=fun h clk _=>⟨(hp h clk).1,by rw[(hp h clk).2];simp⟩
end Go.Proofs.YtmkblnlafljljaaGreatDoor.Am
