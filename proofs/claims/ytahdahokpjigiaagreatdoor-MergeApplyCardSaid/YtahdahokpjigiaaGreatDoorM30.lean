/- Walking: the program's numbers Walking: a number is cut at its slash Walking: a number is cut at its slash Walking: a number is cut at its slash Limbs: plain facts Walking: rows are handed over; limbs -/
import Derived.Test.YtahdahokpjigiaaGreatDoorM29
open Nat renaming reduceBEq → z0,reduceAdd → z1,reduceLeDiff → z2,reduceSub → z3
set_option linter.all false
namespace Go.Proofs.YtahdahokpjigiaaGreatDoor.Am
open Go
set_option maxRecDepth 100000
theorem q9q {s:List Nat} {i:Nat} {h:List AObj} {t:Tip} {k:IntKind} (hi:i < s.length):z1m h 1 (.sl (bytes s) t) (.int k (i:Int))=some (.iptr [.int .u8 (s[i]:Int)] 0,h):=z5q (e:= .int .u8 (s[i]:Int)) (by simp[bytes,hi]) rfl
theorem q6d {n:Nat} (hl:(dec n).length≤1000):Pure Gam 323 [.str (dec n)] (.bool true):=by
 refine Pure.of rfl y6n rfl rfl rfl rfl rfl fun D B clk T hB hT=> ?_
 have hd:=z1o n
 have hb:(dec n).map (fun (b:Nat)=>AV.int .u8 (Int.ofNat b))=bytes (dec n):=rfl
 simp only[go_sem,w7h,hb,q4z]
 refine z0y (fun m q=>∃ j:Nat,j≤(dec n).length∧m=(dec n).length - j∧q.ts 0= .str (dec n)∧q.ts 6= .sl (bytes (dec n)) .no∧q.ts 7= .int .i64 ((dec n).length:Int)∧q.ts 8= .int .i64 (j:Int)∧q.h=D++[]) (dec n).length ⟨0,by omega,rfl,rfl,rfl,rfl,rfl,rfl⟩ ?_
 rintro m ⟨ts,h,clk⟩ P ⟨j,hj,rfl,h0,h6,h7,h8,rfl⟩ hn he hr
 dsimp only at h0 h6 h7 h8
 by_cases hlt:j < (dec n).length
 ·have e1:decide ((j:Int) < ((dec n).length:Int))=true:=by rw[decide_eq_true_iff];omega
  have hc:=hd _ (List.getElem_mem hlt)
  have e2:decide (((dec n)[j]:Int) < 48)=false:=by rw[decide_eq_false_iff_not];omega
  have e3:decide ((57:Int) < ((dec n)[j]:Int))=false:=by rw[decide_eq_false_iff_not];omega
  have e4:IntKind.i64.wrap ((j:Int) + 1)=((j + 1:Nat):Int):=z0d (by omega) (by omega)
  simp only[go_sem,h0,h6,h7,h8,j3i,e1,q9q hlt,e2,e3,e4]
  exact hn ((dec n).length - (j + 1)) _ (by omega) ⟨j + 1,hlt,rfl,h0,h6,h7,rfl,rfl⟩
 ·have e1:decide ((j:Int) < ((dec n).length:Int))=false:=by rw[decide_eq_false_iff_not];omega
  simp only[go_sem,h0,h6,h7,h8,j3i,e1]
  refine he _ _ ?_
  rcases Nat.eq_zero_or_pos n with rfl | hpos
  ·have e2:decide (dec 0=[48])=true:=by rw[z3t];rfl
   simp only[go_sem,h0,e2,Bool.not_true]
   rw[z0e]
   exact hT _
  ·obtain⟨c,t,hct,hc1,hc2⟩:=j3c hpos
   have e2:decide (dec n=[48])=false:=by rw[z3t,decide_eq_false_iff_not];omega
   have e3:decide (dec n=[])=false:=by simp[z8v n]
   have e4:∀ h k,q4s h (.str (dec n)) (.int k 0)=some (.int .u8 (c:Int),h):=fun h k=>by rw[hct];exact z6b
   have e5:decide ((c:Int)=48)=false:=by rw[decide_eq_false_iff_not];omega
   simp only[go_sem,h0,e2,e3,e4,e5,Bool.not_false,Bool.not_true]
   rw[z0e]
   exact hT _
theorem k1h {z:Int} (hl:(dec z.natAbs).length≤1000):Pure Gam 277 [.str (z3d z)] (.bool true):=by
 refine Pure.of rfl y7l rfl rfl rfl rfl rfl fun D B clk T hB hT=> ?_
 by_cases hz:z < 0
 ·have e1:decide (dec z.natAbs=[48])=false:=by rw[z3t,decide_eq_false_iff_not];omega
  rw[z3d,if_pos hz]
  simp only[go_sem,v7c]
  rw[z0a q9o]
  simp only[go_sem,]
  rw[z0a (q6d hl)]
  simp only[go_sem,e1,Bool.not_false]
  rw[z0e]
  exact hT _
 ·obtain⟨c,t,hct⟩:=List.exists_cons_of_ne_nil (z8v z.natAbs)
  have hc:=z1o z.natAbs c (by rw[hct];exact List.mem_cons_self)
  have hp:Pure Gam 322 [.str (dec z.natAbs), .str [45]] (.tup [.str (dec z.natAbs), .bool false]):=by rw[hct];exact q9p (by omega)
  rw[z3d,if_neg hz]
  simp only[go_sem,v7c]
  rw[z0a hp]
  simp only[go_sem,]
  rw[z0a (q6d hl)]
  simp only[go_sem,Bool.not_false]
  rw[z0e]
  exact hT _
theorem Pure.ext {f:Nat} {args:List AV} {sem:List AV→Option AV} {v:AV} (hext:Gam.ext f=some sem) (hobs:z4k args=[]) (hv:sem (cvL args)=some v):Pure Gam f args v:=by
 intro h clk
 constructor
 ·refine⟨0, ?_⟩
  unfold z5b z0k
  simp only[hext,z1j hobs,z4n hobs,List.isEmpty_nil,if_true,hv,Option.map_some]
 ·unfold z0v
  simp only[hext,hobs,List.map_nil,List.append_nil]
def q2c (s:List Nat):Int:=match s.findIdx? (fun (b:Nat)=>decide ((b:Int)=47)) with
 | some i=>(i:Int)
 | none=> -1
theorem v7e {s:List Nat}:Pure Gam 386 [.str s, .int .u8 47] (.int .i64 (q2c s)):=Pure.ext (sem:=x1n) rfl rfl (by simp[cvL,AV.cv,x1n,q2c];rfl)
theorem k1i {c:Nat} {t:List Nat} (hc:c≠47):Pure Gam 366 [.str (c::t), .str [47]] (.int .i64 (q2c (c::t))):=by
 have h292:Pure Gam 376 [.str (c::t), .int .u8 47] (.int .i64 (q2c (c::t))):=by
  refine Pure.of rfl y6p rfl rfl rfl rfl rfl fun D B clk T hB hT=> ?_
  simp only[go_sem,w7n]
  rw[z0a v7e]
  simp only[go_sem,]
  rw[z2m]
  exact hT _
 refine Pure.of rfl y6o rfl rfl rfl rfl rfl fun D B clk T hB hT=> ?_
 have e2:decide ([47]=c::t)=false:=by rw[decide_eq_false_iff_not];intro h;injection h with h1 _;exact hc h1.symm
 simp only[go_sem,w7m,Nat.zero_add,Int.cast_ofNat_Int,Int.reduceEq,decide_true,decide_false,Bool.not_false,e2,z6b]
 rw[z0a h292]
 simp only[go_sem,]
 rw[z2m]
 exact hT _
theorem j6o {s:List Nat} (hd:∀ c∈s,c≠47):q2c s= -1:=by
 unfold q2c
 rw[List.findIdx?_eq_none_iff.2 fun c hc=>by have:=hd c hc;simp;omega]
theorem k6s {s r:List Nat} (hd:∀ c∈s,c≠47):q2c (s++47::r)=(s.length:Int):=by
 have h:(s++47::r).findIdx? (fun (b:Nat)=>decide ((b:Int)=47))=some s.length:=by
  induction s with
  | nil=>simp[List.findIdx?_cons]
  | cons c s ih=>
    have hc:=hd c List.mem_cons_self
    have:=ih fun d hd'=>hd d (List.mem_cons_of_mem _ hd')
    rw[List.cons_append,List.findIdx?_cons,this]
    have:decide ((c:Int)=47)=false:=by rw[decide_eq_false_iff_not];omega
    simp[this]
 unfold q2c
 rw[h]
theorem x7p {s:List Nat} (hne:s≠[]) (hd:∀ c∈s,c≠47):Pure Gam 354 [.str s, .str [47]] (.tup [.str s, .str [], .bool false]):=by
 obtain⟨c,t,rfl⟩:=List.exists_cons_of_ne_nil hne
 have hp:Pure Gam 361 [.str (c::t), .str [47]] (.tup [.str (c::t), .str [], .bool false]):=by
  refine Pure.of rfl w7l rfl rfl rfl rfl rfl fun D B clk T hB hT=> ?_
  simp only[go_sem,v6s]
  rw[z0a (k1i (hd c List.mem_cons_self)),j6o hd]
  simp only[go_sem,Int.reduceLE,decide_false]
  rw[z0h rfl rfl]
  exact hT _
 refine Pure.of rfl w7k rfl rfl rfl rfl rfl fun D B clk T hB hT=> ?_
 simp only[go_sem,v6r]
 rw[z0a hp]
 simp only[go_sem,]
 rw[z0h rfl rfl]
 exact hT _
theorem j6p {s r:List Nat} (hne:s≠[]) (hd:∀ c∈s,c≠47) (hl:s.length≤1000):Pure Gam 354 [.str (s++47::r), .str [47]] (.tup [.str s, .str r, .bool true]):=by
 obtain⟨c,t,hs⟩:=List.exists_cons_of_ne_nil hne
 have hi:Pure Gam 366 [.str (s++47::r), .str [47]] (.int .i64 (s.length:Int)):=by
  rw[←k6s (r:=r) hd,hs]
  exact k1i (hd c (by rw[hs];exact List.mem_cons_self))
 have hp:Pure Gam 361 [.str (s++47::r), .str [47]] (.tup [.str s, .str r, .bool true]):=by
  refine Pure.of rfl w7l rfl rfl rfl rfl rfl fun D B clk T hB hT=> ?_
  have e1:decide (0≤(s.length:Int))=true:=by rw[decide_eq_true_iff];omega
  have e2:IntKind.i64.wrap ((s.length:Int) + 1)=((s.length + 1:Nat):Int):=z0d (by omega) (by omega)
  have e3:(s++47::r).take s.length=s:=List.take_left
  have e4:(s++47::r).drop (s.length + 1)=r:=by rw[List.drop_append,Nat.add_sub_cancel_left,List.drop_of_length_le (by omega)];rfl
  have h1:∀ h,slV h none (.str (s++47::r)) none (some (.int .i64 (s.length:Int))) none=some (.str s,h):=fun h=>by rw[w7y (by simp),e3]
  have h2:∀ h,slV h none (.str (s++47::r)) (some (.int .i64 ((s.length + 1:Nat):Int))) none none=some (.str r,h):=fun h=>by rw[k6g (by simp),e4]
  simp only[go_sem,v6s]
  rw[z0a hi]
  simp only[go_sem,e1,Nat.zero_add,Int.cast_ofNat_Int,e2,h1,h2]
  rw[z0h rfl rfl]
  exact hT _
 refine Pure.of rfl w7k rfl rfl rfl rfl rfl fun D B clk T hB hT=> ?_
 simp only[go_sem,v6r]
 rw[z0a hp]
 simp only[go_sem,]
 rw[z0h rfl rfl]
 exact hT _
def nl (n:Nat):List Nat:=if n=0 then [] else n % 1000000000::nl (n / 1000000000)
termination_by n
decreasing_by omega
theorem z9b:nl 0=[]:=by rw[nl,if_pos rfl]
theorem q9r {n:Nat} (h:0 < n):nl n=n % 1000000000::nl (n / 1000000000):=by rw[nl,if_neg (by omega)]
theorem x4m {n:Nat} (h:0 < n) (h2:n < 1000000000):nl n=[n]:=by
 rw[q9r h,Nat.mod_eq_of_lt h2,Nat.div_eq_of_lt h2,z9b]
def z7t:List Nat→Nat
 | []=>0
 | x::l=>x + 1000000000 * z7t l
theorem q3w (n:Nat):z7t (nl n)=n:=by
 induction n using Nat.strongRecOn with
 | ind n ih=>
   rcases Nat.eq_zero_or_pos n with rfl | h
   ·rw[z9b];rfl
   ·rw[q9r h,z7t,ih _ (by omega)]
    omega
theorem v7f (n:Nat):∀ x∈nl n,x < 1000000000:=by
 induction n using Nat.strongRecOn with
 | ind n ih=>
   rcases Nat.eq_zero_or_pos n with rfl | h
   ·rw[z9b];simp
   ·rw[q9r h]
    intro x hx
    rw[List.mem_cons] at hx
    rcases hx with rfl | hx
    ·omega
    ·exact ih _ (by omega) x hx
theorem q3x {a b:List Nat}:z7t (a++b)=z7t a + 1000000000 ^ a.length * z7t b:=by
 induction a with
 | nil=>simp[z7t]
 | cons x a ih=>
   simp only[List.cons_append,z7t,ih,List.length_cons,Nat.pow_succ]
   rw[Nat.mul_add,←Nat.mul_assoc,Nat.mul_comm (1000000000 ^ a.length) 1000000000]
   omega
theorem v7g {l:List Nat} (h:∀ x∈l,x < 1000000000):z7t l < 1000000000 ^ l.length:=by
 induction l with
 | nil=>simp[z7t]
 | cons x l ih=>
   have h1:=ih fun y hy=>h y (List.mem_cons_of_mem _ hy)
   have h2:=h x List.mem_cons_self
   simp only[z7t,List.length_cons,Nat.pow_succ]
   omega
theorem v7h {l:List Nat} (h:∀ x∈l,x < 1000000000) (hc:∀ l',l≠l'++[0]):nl (z7t l)=l:=by
 induction l with
 | nil=>exact z9b
 | cons x l ih=>
   have hx:=h x List.mem_cons_self
   have hl:nl (z7t l)=l:=ih (fun y hy=>h y (List.mem_cons_of_mem _ hy)) fun l' e=>hc (x::l') (by rw[e];rfl)
   have hpos:0 < x + 1000000000 * z7t l:=by
    rcases Nat.eq_zero_or_pos (z7t l) with h0 | h0
    ·rw[h0,z9b] at hl
     have:x≠0:=fun e=>hc [] (by rw[e,←hl];rfl)
     omega
    ·omega
   rw[z7t,q9r hpos]
   congr 1
   ·omega
   ·rw[show (x + 1000000000 * z7t l) / 1000000000=z7t l by omega,hl]
theorem w8p {n k:Nat} (h:n < 1000000000 ^ k):(nl n).length≤k:=by
 induction k generalizing n with
 | zero=>
   have:n=0:=by simpa using h
   rw[this,z9b];simp
 | succ k ih=>
   rcases Nat.eq_zero_or_pos n with rfl | hp
   ·rw[z9b];simp
   ·rw[q9r hp,List.length_cons]
    have:=ih (n:=n / 1000000000) (by rw[Nat.pow_succ] at h;omega)
    omega
theorem x2u:∀ {os:List (Nat×Nat)} {h:List AObj},(freezeAll h os).length=h.length
 | [],_=>rfl
 | o::os,h=>by
   simp only[freezeAll]
   rw[x2u]
   split
   ·rw[List.length_set]
   ·rfl
theorem j6q {f:Nat} {args az:List AV} {h:List AObj} {clk:Nat} {v:AV} {af:AFun} (hp:Pure Gam f az v) (hext:Gam.ext f=none) (hfn:Gam.fn f=some af) (hb:af.byref=[]) (ho:af.owned=false) (hpa:z1n h [] 0 args=some az) (hcv:cvL az=az) (hobs:z4k az=[]) (hids:idsL az=[]) (hv:v.ids=[]):
  ∃ k,z5b Gam k f args h clk=some (v,if v.flat then h else freezeAll h (z0s [] 0 args),clk):=by
 obtain⟨⟨k,hk⟩,_⟩:=hp (freezeAll h (z0s [] 0 args)) clk
 refine⟨k, ?_⟩
 have hpa2:z1n (freezeAll h (z0s [] 0 args)) [] 0 az=some az:=by rw[z1j hobs,hcv]
 have hl2:z0s [] 0 az=[]:=z4n hobs
 unfold z5b z0k at hk⊢
 simp only[hext,hfn,hb,hpa,hpa2,hl2,hids,reach,freezeAll,x2u,z4g,ho,Bool.false_eq_true,if_false] at hk⊢
 generalize z4a Gam k h.length af.body _=E at hk⊢
 match E,hk with
 | none,hk=>cases hk
 | some (.exit i,s),hk=>cases hk
 | some (.norm,s),hk=>
   simp only at hk⊢
   generalize z1s s.h s.ts af.results=R at hk⊢
   cases R with
   | none=>cases hk
   | some vs=>
     simp only at hk⊢
     generalize conv s.h (z1k vs)=W at hk⊢
     cases W with
     | none=>cases hk
     | some w=>
       simp only at hk⊢
       have hw:w=v:=by
        revert hk
        generalize List.all _ _=b
        cases b
        ·intro hk
         simp only[Bool.false_eq_true,if_false,Option.some.injEq,Prod.mk.injEq] at hk
         exact hk.1
        ·intro hk
         simp only[if_true,Option.some.injEq,Prod.mk.injEq] at hk
         exact hk.1
       subst hw
       simp only[hv,List.isEmpty_nil,Bool.and_true,List.map_nil,List.flatten_nil,List.append_nil,List.all_nil,if_true,z5y]
 | some (.ret,s),hk=>
   simp only at hk⊢
   generalize z1s s.h s.ts af.results=R at hk⊢
   cases R with
   | none=>cases hk
   | some vs=>
     simp only at hk⊢
     generalize conv s.h (z1k vs)=W at hk⊢
     cases W with
     | none=>cases hk
     | some w=>
       simp only at hk⊢
       have hw:w=v:=by
        revert hk
        generalize List.all _ _=b
        cases b
        ·intro hk
         simp only[Bool.false_eq_true,if_false,Option.some.injEq,Prod.mk.injEq] at hk
         exact hk.1
        ·intro hk
         simp only[if_true,Option.some.injEq,Prod.mk.injEq] at hk
         exact hk.1
       subst hw
       simp only[hv,List.isEmpty_nil,Bool.and_true,List.map_nil,List.flatten_nil,List.append_nil,List.all_nil,if_true,z5y]
theorem k1j {f base gg clk:Nat} {args az:List AV} {h:List AObj} {v:AV} {af:AFun} {dst:Option Nat} {os:List AOper} {ts:Tmps} {ks:List Kf} {Q:Post} (hp:Pure Gam f az v) (hext:Gam.ext f=none) (hfn:Gam.fn f=some af) (hb:af.byref=[]) (ho:af.owned=false) (hpa:z1n h [] 0 args=some az) (hcv:cvL az=az) (hobs:z4k az=[]) (hids:idsL az=[]) (hv:v.ids=[]):
  CK Gam base f args h clk .plain dst gg os ts ks Q=O Gam base .plain (gg + 1) os ⟨z9f ts dst v,if v.flat then h else freezeAll h (z0s [] 0 args),clk⟩ ks Q:=by
 obtain⟨k,hk⟩:=j6q (clk:=clk) hp hext hfn hb ho hpa hcv hobs hids hv
 unfold CK
 apply propext
 constructor
 ·rintro ⟨k',v',h',c,hc,hq⟩
  have:=q8x hk hc
  simp only[Prod.mk.injEq] at this
  obtain⟨rfl,rfl,rfl⟩:=this
  exact hq
 ·intro hq
  exact⟨k,_,_,_,hk,hq⟩
def z4c (x:Nat):AV:= .int .u32 (x:Int)
theorem z3j {l:List Nat}:idsL (l.map z4c)=[]:=z0c fun _=>rfl
theorem q9s {l:List Nat}:z0t 1 (l.map z4c)=true:=z3o fun _=>⟨rfl,rfl,rfl⟩
theorem x4n {T:List Nat} {l:List Nat} {t:Tip} {R:AV→List AObj→Prop} {h:List AObj}:RV T (some [.sl (l.map z4c) t]) R h=R (.sl (l.map z4c) .no) h:=z2x rfl (by simp[AV.cv,AV.ids,z3j])
theorem q9t {T:List Nat} {l l':List Nat} {t t':Tip} {R:AV→List AObj→Prop} {h:List AObj}:RV T (some [.sl (l.map z4c) t, .sl (l'.map z4c) t']) R h=R (.tup [.sl (l.map z4c) .no, .sl (l'.map z4c) .no]) h:=z0h rfl (by simp[z1k,AV.cv,cvL,AV.ids,idsL,z3j])
theorem q1g {l:List Nat} {i:Nat} {h:List AObj} {t:Tip} {k:IntKind} (hi:i < l.length):z1m h 1 (.sl (l.map z4c) t) (.int k (i:Int))=some (.iptr [.int .u32 (l[i]:Int)] 0,h):=z5q (e:= .int .u32 (l[i]:Int)) (by simp[z4c,hi]) rfl
theorem v7i {l:List Nat} {n:Nat} {h:List AObj} (hn:n≤l.length):slV h (some 1) (.sl (l.map z4c) .no) none (some (.int .i64 (n:Int))) none=some (.sl ((l.take n).map z4c) .no,h):=by
 have hh:z4l 1 (l.map z4c)=true:=by cases l <;> rfl
 have hn':n≤(l.map z4c).length:=by rw[List.length_map];exact hn
 simp[slV,z2v,z4v,hh,hn]
theorem x1f {l:List Nat} {n:Nat} (hn:n < l.length) (h0:l[n]=0):z7t (l.take (n + 1))=z7t (l.take n):=by
 rw[List.take_succ_eq_append_getElem hn,q3x,h0]
 simp[z7t]
theorem j0l {l:List Nat} {t:Tip} (hb:∀ x∈l,x < 1000000000) (hl:l.length≤1000):Pure Gam 364 [.sl (l.map z4c) t] (.sl ((nl (z7t l)).map z4c) .no):=by
 refine Pure.of rfl w7v rfl rfl rfl (az:=[.sl (l.map z4c) .no]) rfl (by simp[idsL,AV.ids,AV.cv,z3j]) fun D B clk T hB hT=> ?_
 simp only[go_sem,w7u,List.length_map]
 refine z0y (fun m q=>m≤l.length∧z7t (l.take m)=z7t l∧q.ts 0= .sl (l.map z4c) .no∧q.ts 3= .int .i64 (m:Int)∧q.h=D++[]) l.length ⟨Nat.le_refl _,by rw[List.take_length],rfl,rfl,rfl⟩ ?_
 rintro m ⟨ts,h,clk⟩ P ⟨hm,hv,h0,h3,rfl⟩ hn he hr
 dsimp only at h0 h3
 have fin:nl (z7t l)=l.take m→∀ (ts':Tmps) (clk':Nat),ts' 0= .sl (l.map z4c) .no→ts' 3= .int .i64 (m:Int)→P (.exit 0) ⟨ts',D++[],clk'⟩:=by
  intro hc ts' clk' q0 q3
  refine he _ _ ?_
  simp only[go_sem,q0,q3,v7i hm]
  rw[x4n,←hc]
  exact hT _
 rcases Nat.eq_zero_or_pos m with rfl | hpos
 ·have e1:decide ((0:Int) < 0)=false:=rfl
  simp only[go_sem,h0,h3,x7m,e1]
  exact fin (by rw[←hv,List.take_zero];exact z9b) _ _ h0 h3
 ·have e1:decide ((0:Int) < (m:Int))=true:=by rw[decide_eq_true_iff];omega
  have e2:IntKind.i64.wrap ((m:Int) - 1)=((m - 1:Nat):Int):=by rw[z0d (by omega) (by omega)];omega
  have hlt:m - 1 < l.length:=by omega
  by_cases hz:l[m - 1]=0
  ·have e3:decide (((l[m - 1]:Nat):Int)=0)=true:=by rw[decide_eq_true_iff];omega
   simp only[go_sem,h0,h3,x7m,e1,e2,q1g hlt,e3]
   refine hn (m - 1) _ (by omega) ⟨by omega, ?_,h0,rfl,rfl⟩
   rw[←hv,←x1f hlt hz,show m - 1 + 1=m by omega]
  ·have e3:decide (((l[m - 1]:Nat):Int)=0)=false:=by rw[decide_eq_false_iff_not];omega
   simp only[go_sem,h0,h3,x7m,e1,e2,q1g hlt,e3]
   refine fin ?_ _ _ h0 h3
   rw[←hv]
   refine v7h (fun x hx=>hb x (List.mem_of_mem_take hx)) fun l' e=>hz ?_
   have h1:l.take m=l.take (m - 1)++[l[m - 1]]:=by
    have:=List.take_succ_eq_append_getElem hlt
    rwa [show m - 1 + 1=m by omega] at this
   rw[h1] at e
   have:=List.append_inj' e rfl
   simpa using this.2
theorem u64_in {n:Int} (h1:0≤n) (h2:n≤18446744073709551615):IntKind.u64.wrap n=n:=IntWalk.u64_in _ ⟨h1,h2⟩
theorem u32_in {n:Int} (h1:0≤n) (h2:n≤4294967295):IntKind.u32.wrap n=n:=IntWalk.u32_in _ ⟨h1,h2⟩
theorem x2v (l:List Nat) (k:Nat):z7t l=z7t (l.take k) + 1000000000 ^ (l.take k).length * z7t (l.drop k):=by
 rw[←q3x,List.take_append_drop]
theorem x7q {a b:List Nat} {k:Nat} (ha:∀ x∈a,x < 1000000000) (hl:a.length=b.length) (hka:k < a.length) (hkb:k < b.length) (hd:a.drop (k + 1)=b.drop (k + 1)) (h:a[k] < b[k]):z7t a < z7t b:=by
 rw[x2v a k,x2v b k,List.drop_eq_getElem_cons hka,List.drop_eq_getElem_cons hkb,hd]
 have h1:(a.take k).length=k:=by simp;omega
 have h2:(b.take k).length=k:=by simp;omega
 have h3:=v7g (l:=a.take k) fun x hx=>ha x (List.mem_of_mem_take hx)
 rw[h1] at h3
 rw[h1,h2]
 have h4:1000000000 ^ k * (1 + z7t (a[k]::b.drop (k + 1)))≤1000000000 ^ k * z7t (b[k]::b.drop (k + 1)):=Nat.mul_le_mul_left _ (by simp only[z7t];omega)
 rw[Nat.mul_add] at h4
 omega
theorem x7r {x y:Nat} (h:x≤y):(nl x).length≤(nl y).length:=by
 induction y using Nat.strongRecOn generalizing x with
 | ind y ih=>
   rcases Nat.eq_zero_or_pos x with rfl | hx
   ·rw[z9b];simp
   ·rw[q9r hx,q9r (n:=y) (by omega),List.length_cons,List.length_cons]
    have:=ih (y / 1000000000) (by omega) (x:=x / 1000000000) (Nat.div_le_div_right h)
    omega
theorem z3f {base:Nat} {b:ACode} {ks:List Kf} {s:St} {Q:Post} (h:K Gam base b (.seq (.loop b)::ks) s Q):K Gam base (.loop b) ks s Q:=by
 rw[←v3b] at h
 have:∀ Q,W Gam base (.seq b (.loop b)) s Q=W Gam base (.loop b) s Q:=fun Q=>by
  apply propext
  constructor
  ·rintro ⟨k,e,s',h,hq⟩
   cases k with
   | zero=>cases h
   | succ k=>exact⟨k + 1,e,s',h,hq⟩
  ·rintro ⟨k,e,s',h,hq⟩
   cases k with
   | zero=>cases h
   | succ k=>exact⟨k + 1,e,s',h,hq⟩
 rw[w0j this] at h
 exact h
theorem z2n {h:List AObj} {K k:IntKind} {n:Int} {xs:List AV} {t:Tip}:z1m h 1 (.sl (.int K n::xs) t) (.int k 0)=some (.iptr [.int K n] 0,h):=z5q (i:=0) (e:= .int K n) rfl rfl
theorem v7j {x y:Nat} (hx:(nl x).length≤1000) (hy:(nl y).length≤1000):∃ r:Int,(r < 0↔x < y)∧(r=0↔x=y)∧Pure Gam 372 [.sl ((nl x).map z4c) .no, .sl ((nl y).map z4c) .no] (.int .i64 r):=by
 have hbx:=v7f x
 have hby:=v7f y
 by_cases hl:(nl x).length=(nl y).length
 ·
  have e1:decide (((nl x).length:Int)=((nl y).length:Int))=true:=by rw[decide_eq_true_iff];omega
  have key:∀ m,m≤(nl x).length→(nl x).drop m=(nl y).drop m→∃ r:Int,(r < 0↔x < y)∧(r=0↔x=y)∧∀ (D:List AObj) (B clk:Nat) (T:AV→List AObj→Prop) (ks:List Kf) (ts:Tmps) (Q:Post),ts 0= .sl ((nl x).map z4c) .no→ts 1= .sl ((nl y).map z4c) .no→ts 5= .int .i64 ((m:Int) - 1)→
    (∀ ts' clk',ts' 4= .int .i64 r→K Gam B .ret ks ⟨ts',D++[],clk'⟩ Q)→(r=0→∀ ts' clk',K Gam B (.exit 0) ks ⟨ts',D++[],clk'⟩ Q)→K Gam B (.loop x2p) ks ⟨ts,D++[],clk⟩ Q:=by
   intro m
   induction m with
   | zero=>
     intro _ hd
     have hxy:x=y:=by
      rw[List.drop_zero,List.drop_zero] at hd
      rw[←q3w x,←q3w y,hd]
     refine⟨0,by omega,by simp[hxy],fun D B clk T ks ts Q h0 h1 h5 _ hx=> ?_⟩
     refine z0y (fun _ q=>q.ts 5= .int .i64 (-1)∧q.h=D++[]) 0 ⟨by simpa using h5,rfl⟩ ?_
     rintro m ⟨ts,h,clk⟩ P ⟨h5,rfl⟩ hn he hr
     dsimp only at h5
     simp only[go_sem,h5,x2p,Int.reduceLE,Int.reduceNeg,decide_false]
     exact he _ _ (hx rfl _ _)
   | succ m ih=>
     intro hm hd
     have hkx:m < (nl x).length:=by omega
     have hky:m < (nl y).length:=by omega
     have e2:decide ((0:Int)≤((m + 1:Nat):Int) - 1)=true:=by rw[decide_eq_true_iff];omega
     have e3:((m + 1:Nat):Int) - 1=(m:Int):=by omega
     have e4:decide ((0:Int)≤(m:Int))=true:=by rw[decide_eq_true_iff];omega
     have hxm:=hbx _ (List.getElem_mem hkx)
     have hym:=hby _ (List.getElem_mem hky)
     have w1:∀ z:Nat,z < 1000000000→IntKind.i64.wrap (z:Int)=(z:Int):=fun z hz=>z0d (by omega) (by omega)
     have w2:=w1 _ hxm
     have w3:=w1 _ hym
     by_cases hne:(nl x)[m]=(nl y)[m]
     ·obtain⟨r,h1,h2,h3⟩:=ih (by omega) (by rw[List.drop_eq_getElem_cons hkx,List.drop_eq_getElem_cons hky,hd,hne])
      refine⟨r,h1,h2,fun D B clk T ks ts Q q0 q1 q5 hr hx=> ?_⟩
      rw[e3] at q5
      have e5:decide (((nl x)[m]:Int)=((nl y)[m]:Int))=true:=by rw[decide_eq_true_iff];omega
      have e6:IntKind.i64.wrap ((m:Int) - 1)=(m:Int) - 1:=z0d (by omega) (by omega)
      refine z3f ?_
      simp only[go_sem,q0,q1,q5,x2p,e4,q1g hkx,q1g hky,e5,Bool.not_true,e6]
      exact h3 D B _ T ks _ Q (by simp[z0b,q0]) (by simp[z0b,q1]) (by simp[z0b]) hr hx
     ·refine⟨((nl x)[m]:Int) - ((nl y)[m]:Int), ?_, ?_,fun D B clk T ks ts Q q0 q1 q5 hr hx=> ?_⟩
      ·constructor
       ·intro h
        have:=x7q hbx hl hkx hky hd (by omega)
        rwa [q3w,q3w] at this
       ·intro h
        refine Classical.byContradiction fun hc=> ?_
        have:=x7q hby hl.symm hky hkx hd.symm (by omega)
        rw[q3w,q3w] at this
        omega
      ·constructor
       ·intro h;omega
       ·intro h;subst h;omega
      ·rw[e3] at q5
       have e5:decide (((nl x)[m]:Int)=((nl y)[m]:Int))=false:=by rw[decide_eq_false_iff_not];omega
       have e6:IntKind.i64.wrap (((nl x)[m]:Int) - ((nl y)[m]:Int))=((nl x)[m]:Int) - ((nl y)[m]:Int):=z0d (by omega) (by omega)
       refine z3f ?_
       simp only[go_sem,q0,q1,q5,x2p,e4,q1g hkx,q1g hky,e5,Bool.not_false,w2,w3,e6]
       exact hr _ _ (by simp[z0b])
  obtain⟨r,h1,h2,h3⟩:=key (nl x).length (Nat.le_refl _) (by rw[List.drop_length,hl,List.drop_length])
  refine⟨r,h1,h2,Pure.of rfl w7w rfl rfl rfl (az:=[.sl ((nl x).map z4c) .no, .sl ((nl y).map z4c) .no]) rfl (by simp[idsL,AV.ids,AV.cv,z3j]) fun D B clk T hB hT=> ?_⟩
  have e2:IntKind.i64.wrap (((nl x).length:Int) - 1)=((nl x).length:Int) - 1:=z0d (by omega) (by omega)
  have e3:IntKind.i64.wrap (((nl y).length:Int) - 1)=((nl x).length:Int) - 1:=by rw[z0d (by omega) (by omega)];omega
  simp only[go_sem,v6u,List.length_map,e1,Bool.not_true,e2]
  refine h3 D B _ T _ _ _ (by simp[z0b,z2w]) (by simp[z0b,z7g,z2w]) (by simp[z0b]) (fun ts' clk' q4=> ?_) (fun hr0 ts' clk'=> ?_)
  ·simp only[go_sem,q4]
   rw[z2m]
   exact hT _
  ·simp only[go_sem,]
   rw[z2m,←hr0]
   exact hT _
 ·have e1:decide (((nl x).length:Int)=((nl y).length:Int))=false:=by rw[decide_eq_false_iff_not];omega
  have e2:IntKind.i64.wrap (((nl x).length:Int) - ((nl y).length:Int))=((nl x).length:Int) - ((nl y).length:Int):=z0d (by omega) (by omega)
  refine⟨((nl x).length:Int) - ((nl y).length:Int), ?_, ?_,Pure.of rfl w7w rfl rfl rfl (az:=[.sl ((nl x).map z4c) .no, .sl ((nl y).map z4c) .no]) rfl (by simp[idsL,AV.ids,AV.cv,z3j]) fun D B clk T hB hT=> ?_⟩
  ·constructor
   ·intro h
    refine Classical.byContradiction fun hc=> ?_
    have:=x7r (x:=y) (y:=x) (by omega)
    omega
   ·intro h
    have:=x7r (x:=x) (y:=y) (by omega)
    omega
  ·constructor
   ·intro h;omega
   ·intro h;subst h;omega
  ·simp only[go_sem,v6u,List.length_map,e1,Bool.not_false,e2]
   rw[z2m]
   exact hT _
theorem v7k {l:List Nat}:Pure Gam 359 [.sl (l.map z4c) .no] (.bool (decide (l=[1]))):=by
 refine Pure.of rfl y6x rfl rfl rfl (az:=[.sl (l.map z4c) .no]) rfl (by simp[idsL,AV.ids,AV.cv,z3j]) fun D B clk T hB hT=> ?_
 match l with
 | []=>
   simp only[go_sem,k6f,List.map_nil,Int.cast_ofNat_Int,Int.reduceEq,decide_false]
   rw[z0e]
   exact hT _
 | [x]=>
   have e:decide ((x:Int)=1)=decide ([x]=[1]):=by rw[decide_eq_decide];simp;omega
   simp only[go_sem,k6f,z4c,List.map_cons,List.map_nil,Nat.zero_add,Int.cast_ofNat_Int,decide_true,z2n,e]
   rw[z0e]
   exact hT _
 | x::y::l=>
   have e:decide (((l.length + 1 + 1:Nat):Int)=1)=false:=by rw[decide_eq_false_iff_not];omega
   have e2:decide (x::y::l=[1])=false:=by simp
   rw[e2] at hT
   simp only[go_sem,k6f,List.length_map,List.map_cons,e]
   rw[z0e]
   exact hT _
theorem k1k {l:List Nat} {k:Nat} (h:k < l.length):z7t (l.drop k)=l[k] + 1000000000 * z7t (l.drop (k + 1)):=by
 rw[List.drop_eq_getElem_cons h,z7t]
theorem j6r {D L:List AObj} {B k g n:Nat} {es:List AV} {w:Bool} (hB:D.length=B) (hL:L[k]? =some (.blk g es true w 0)):freezeAll (D++L) [(B + k,n)]=D++L.set k (.blk g es true w n):=by
 have hg:(D++L)[B + k]? =some (.blk g es true w 0):=by rw[z6k hB];exact hL
 simp only[freezeAll,hg,z5i hB,Nat.zero_max]
theorem v7l {la:List Nat} {b:Nat} (ha:∀ x∈la,x < 1000000000) (hl:la.length≤1000) (hb0:0 < b) (hb:b < 1000000000):Pure Gam 373 [.sl (la.map z4c) .no, .int .u32 (b:Int)] (.tup [.sl ((nl (z7t la / b)).map z4c) .no, .sl ((nl (z7t la % b)).map z4c) .no]):=by
 refine Pure.of rfl y7a rfl rfl rfl (az:=[.sl (la.map z4c) .no, .int .u32 (b:Int)]) rfl (by simp[idsL,AV.ids,AV.cv,z3j]) fun D B clk T hB hT=> ?_
 have e0:IntKind.i64.wrap ((la.length:Int) - 1)=(la.length:Int) - 1:=z0d (by omega) (by omega)
 have hms:∀ h s g,msV h s g (.int .u32 0) 4 (.int .i64 (la.length:Int)) (.int .i64 (la.length:Int))=some (.ob s g 0 la.length,h.set s (.blk g (List.replicate la.length (.int .u32 0)) true false 0)):=fun h s g=>q4y rfl (by omega)
 simp only[go_sem,w7x,List.length_map,hB,hms,e0]
 generalize hgr:clk + 2 + 2=gr
 refine z0y (fun m q=>∃ (i r:Nat) (qs:List Nat),i≤la.length∧m=la.length - i∧qs.length=i∧(∀ x∈qs,x < 1000000000)∧r < b∧z7t (la.drop (la.length - i))=b * z7t qs + r∧q.ts 0= .sl (la.map z4c) .no∧q.ts 1= .int .u32 (b:Int)∧q.ts 6= .ob (B + 0) gr 0 la.length∧q.ts 7= .int .u64 (r:Int)∧q.ts 8= .int .i64 ((la.length:Int) - i - 1)∧
  q.h=D++[.blk gr (List.replicate (la.length - i) (.int .u32 0)++qs.map z4c) true false 0, .dead]) la.length ?_ ?_
 ·refine⟨0,0,[],by omega,rfl,rfl,by simp,hb0,by simp[z7t],rfl,rfl, ?_,rfl,by simp[z0b],by simp⟩
  subst hgr;rfl
 rintro m ⟨ts,h,clk⟩ P ⟨i,r,qs,hi,rfl,hql,hqb,hr,hw,h0,h1,h6,h7,h8,rfl⟩ hn he hrt
 dsimp only at h0 h1 h6 h7 h8
 by_cases hlt:i < la.length
 ·have hk:la.length - 1 - i < la.length:=by omega
  have e1:(la.length:Int) - i - 1=((la.length - 1 - i:Nat):Int):=by omega
  rw[e1] at h8
  have e2:decide ((0:Int)≤((la.length - 1 - i:Nat):Int))=true:=by rw[decide_eq_true_iff];omega
  have hx:=ha _ (List.getElem_mem hk)
  have hdr:=k1k hk
  generalize hxx:la[la.length - 1 - i]=x at hx hdr
  rw[show la.length - 1 - i + 1=la.length - i by omega,hw] at hdr
  have hv:r * 1000000000 + x < b * 1000000000:=by
   have:(r + 1) * 1000000000≤b * 1000000000:=Nat.mul_le_mul_right _ hr
   omega
  have hv2:b * 1000000000 < 1000000000 * 1000000000:=Nat.mul_lt_mul_of_pos_right hb (by omega)
  have hquo:(r * 1000000000 + x) / b < 1000000000:=(Nat.div_lt_iff_lt_mul hb0).2 (by rw[Nat.mul_comm 1000000000 b];exact hv)
  have hrem:(r * 1000000000 + x) % b < b:=Nat.mod_lt _ hb0
  have hdm:=Nat.div_add_mod (r * 1000000000 + x) b
  generalize hq:(r * 1000000000 + x) / b=y at hquo hdm
  generalize hz:(r * 1000000000 + x) % b=z at hrem hdm
  have hidx0:∀ h,z1m h 1 (.sl (la.map z4c) .no) (.int .i64 ((la.length - 1 - i:Nat):Int))=some (.iptr [.int .u32 (x:Int)] 0,h):=fun h=>by rw[q1g hk,hxx]
  have w1:IntKind.u64.wrap ((r:Int) * 1000000000)=((r * 1000000000:Nat):Int):=by rw[u64_in (by omega) (by omega)];omega
  have w2:IntKind.u64.wrap (x:Int)=(x:Int):=u64_in (by omega) (by omega)
  have w3:IntKind.u64.wrap (((r * 1000000000:Nat):Int) + (x:Int))=((r * 1000000000 + x:Nat):Int):=by rw[u64_in (by omega) (by omega)];omega
  have w4:IntKind.u64.wrap (b:Int)=(b:Int):=u64_in (by omega) (by omega)
  have w5:IntKind.u32.wrap (IntKind.u64.wrap ((((r * 1000000000 + x:Nat):Int)).tdiv (b:Int)))=(y:Int):=by
   rw[IntWalk.up_tdiv rfl rfl,hq,u64_in (by omega) (by omega),u32_in (by omega) (by omega)]
  have w6:(((r * 1000000000 + x:Nat):Int)).tmod (b:Int)=(z:Int):=by rw[IntWalk.up_tmod rfl rfl,hz]
  have hbn:(b:Int)≠0:=by omega
  have hidx:z1m (D++[.blk gr (List.replicate (la.length - i) (.int .u32 0)++qs.map z4c) true false 0, .dead]) 1 (.ob (B + 0) gr 0 la.length) (.int .i64 ((la.length - 1 - i:Nat):Int))=some (.ptr (B + 0) gr (la.length - 1 - i) 0,D++[.blk gr (List.replicate (la.length - i) (.int .u32 0)++qs.map z4c) true false 0, .dead]):=
   z8z (L:=[.blk gr (List.replicate (la.length - i) (.int .u32 0)++qs.map z4c) true false 0, .dead]) (k:=0) hB rfl (q6b hlt) rfl (by omega)
  have hstore:z8s (D++[.blk gr (List.replicate (la.length - i) (.int .u32 0)++qs.map z4c) true false 0, .dead]) 1 (.int .u32 (y:Int)) (.ptr (B + 0) gr (la.length - 1 - i) 0)=some (.undef,D++[.blk gr (List.replicate (la.length - (i + 1)) (.int .u32 0)++(y::qs).map z4c) true false 0, .dead]):=by
   have h:=z8y (K:= .u32) (n:=y) (K':= .u32) (m:=0) (D:=D) (B:=B) (g:=gr) (i:=la.length - 1 - i) (es:=List.replicate (la.length - i) (AV.int .u32 0)++qs.map z4c) (L:=[AObj.blk gr (List.replicate (la.length - i) (AV.int .u32 0)++qs.map z4c) true false 0, .dead]) (k:=0) (w:=false) hB rfl (q6b hlt)
   rw[j0g hlt] at h
   exact h
  have e6:IntKind.i64.wrap (((la.length - 1 - i:Nat):Int) - 1)=(la.length:Int) - ((i + 1:Nat):Int) - 1:=by rw[z0d (by omega) (by omega)];omega
  simp only[go_sem,h0,h1,h6,h7,h8,hB,j3n,e2,hidx0,w1,w2,w3,w4,x2i hbn,q6y hbn,w5,w6,hidx,hstore,e6]
  refine hn (la.length - (i + 1)) _ (by omega) ⟨i + 1,z,y::qs,hlt,rfl,by simp[hql], ?_,hrem, ?_,by simp[z0b,h0],by simp[z0b,h1],by simp[z0b,h6],by simp[z0b],by simp[z0b],rfl⟩
  ·intro c hc
   rw[List.mem_cons] at hc
   rcases hc with rfl | hc
   ·exact hquo
   ·exact hqb c hc
  ·rw[show la.length - (i + 1)=la.length - 1 - i by omega,hdr,z7t]
   have:b * (y + 1000000000 * z7t qs)=b * y + 1000000000 * (b * z7t qs):=by rw[Nat.mul_add,Nat.mul_left_comm]
   rw[this]
   omega
 ·have hin:i=la.length:=by omega
  have e1:decide ((0:Int)≤(la.length:Int) - i - 1)=false:=by rw[decide_eq_false_iff_not];omega
  rw[hin,Nat.sub_self,List.drop_zero] at hw
  have hh:List.replicate (la.length - i) (AV.int .u32 0)++qs.map z4c=qs.map z4c:=by rw[show la.length - i=0 by omega];rfl
  have hq1:z7t la / b=z7t qs:=by
   rw[hw,Nat.add_comm,Nat.add_mul_div_left _ _ hb0,Nat.div_eq_of_lt hr,Nat.zero_add]
  have hq2:z7t la % b=r:=by
   rw[hw,Nat.add_comm,Nat.add_mul_mod_self_left,Nat.mod_eq_of_lt hr]
  have hp1:=j0l (t:= .no) hqb (by omega)
  have hp2:Pure Gam 364 [.sl [.int .u32 (r:Int)] .full] (.sl ((nl r).map z4c) .no):=by
   have:=j0l (l:=[r]) (t:= .full) (by intro x hx;simp at hx;omega) (by simp)
   simpa [z7t,z4c] using this
  have w1:IntKind.u32.wrap (r:Int)=(r:Int):=u32_in (by omega) (by omega)
  have hpa:z1n (D++[.blk gr (qs.map z4c) true false 0, .dead]) [] 0 [.ob (B + 0) gr 0 la.length]=some [.sl (qs.map z4c) .no]:=by
   have:=z9a (L:=[.blk gr (qs.map z4c) true false 0, .dead]) (k:=0) (g:=gr) (w:=false) (len:=la.length) hB rfl (by simp;omega)
   simp only[z5a] at this
   simp only[z1n,List.contains_nil,Bool.false_eq_true,if_false,conv,this,Option.map_some]
  have hfr:freezeAll (D++[.blk gr (qs.map z4c) true false 0, .dead]) (z0s [] 0 [.ob (B + 0) gr 0 la.length])=D++[.blk gr (qs.map z4c) true false la.length, .dead]:=by
   have:=j6r (L:=[.blk gr (qs.map z4c) true false 0, .dead]) (k:=0) (g:=gr) (w:=false) (n:=0 + la.length) hB rfl
   rw[Nat.zero_add] at this
   simpa [z0s,AV.obs] using this
  have hck:∀ {base gg clk dst os ts ks Q},CK Gam base 364 [.ob (B + 0) gr 0 la.length] (D++[.blk gr (qs.map z4c) true false 0, .dead]) clk .plain dst gg os ts ks Q=O Gam base .plain (gg + 1) os ⟨z9f ts dst (.sl ((nl (z7t qs)).map z4c) .no),D++[.blk gr (qs.map z4c) true false la.length, .dead],clk⟩ ks Q:=by
   intro base gg clk dst os ts ks Q
   rw[k1j hp1 rfl w7v rfl rfl hpa (by simp[cvL,AV.cv]) rfl (by simp[idsL,AV.ids,z3j]) (by simp[AV.ids,z3j])]
   rw[hfr]
   rfl
  rw[hh]
  simp only[go_sem,h0,h1,h6,h7,h8,hB,j3n,e1]
  refine he _ _ ?_
  simp only[go_sem,h0,h1,h6,h7,h8,hB,hck,w1,z0a hp2]
  rw[q9t,←hq1,←hq2]
  exact hT _
theorem k1l {l:List Nat} {x:Nat} {h:List AObj} {t:Tip} {k:IntKind} (hl:l=[x]):z1m h 1 (.sl (l.map z4c) t) (.int k 0)=some (.iptr [.int .u32 (x:Int)] 0,h):=by
 subst hl
 exact z2n
theorem v7m {x y:Nat} (hx:(nl x).length≤1000) (hy0:0 < y) (hy:y < 1000000000):Pure Gam 365 [.sl ((nl x).map z4c) .no, .sl ((nl y).map z4c) .no] (.tup [.sl ((nl (x / y)).map z4c) .no, .sl ((nl (x % y)).map z4c) .no]):=by
 have hny:=x4m hy0 hy
 obtain⟨r,hr1,hr2,hp⟩:=v7j (x:=x) (y:=y) hx (by rw[hny];simp)
 have hq:=v7l (la:=nl x) (b:=y) (v7f x) hx hy0 hy
 rw[q3w] at hq
 refine Pure.of rfl y6z rfl rfl rfl (az:=[.sl ((nl x).map z4c) .no, .sl ((nl y).map z4c) .no]) rfl (by simp[idsL,AV.ids,AV.cv,z3j]) fun D B clk T hB hT=> ?_
 by_cases hlt:x < y
 ·have e1:decide (r < 0)=true:=by rw[decide_eq_true_iff];omega
  rw[Nat.div_eq_of_lt hlt,Nat.mod_eq_of_lt hlt,z9b] at hT
  simp only[go_sem,v6t,z0a hp,e1]
  have:= @q9t [] [] (nl x) .nil .no T (D++[.dead, .dead, .dead, .dead])
  simp only[List.map_nil] at this
  rw[this]
  exact hT _
 ·have e1:decide (r < 0)=false:=by rw[decide_eq_false_iff_not];omega
  have e2:decide (((nl y).length:Int)=1)=true:=by rw[hny];rfl
  simp only[go_sem,v6t,z0a hp,e1,List.length_map,e2,k1l hny,z0a hq]
  rw[q9t]
  exact hT _
theorem v7n {x y:Nat} (hx:(nl x).length≤1000) (hy:y < 1000000000):Pure Gam 358 [.sl ((nl x).map z4c) .no, .sl ((nl y).map z4c) .no] (.sl ((nl (Nat.gcd x y)).map z4c) .no):=by
 refine Pure.of rfl y6w rfl rfl rfl (az:=[.sl ((nl x).map z4c) .no, .sl ((nl y).map z4c) .no]) rfl (by simp[idsL,AV.ids,AV.cv,z3j]) fun D B clk T hB hT=> ?_
 simp only[go_sem,w7t]
 refine z0y (fun m q=>∃ x':Nat,m < 1000000000∧(nl x').length≤1000∧Nat.gcd x' m=Nat.gcd x y∧q.ts 0= .sl ((nl x').map z4c) .no∧q.ts 1= .sl ((nl m).map z4c) .no∧q.h=D++[]) y ⟨x,hy,hx,rfl,rfl,rfl,rfl⟩ ?_
 rintro m ⟨ts,h,clk⟩ P ⟨x',hm,hx',hg,h0,h1,rfl⟩ hn he hr
 dsimp only at h0 h1
 rcases Nat.eq_zero_or_pos m with rfl | hpos
 ·have e1:decide ((0:Int) < ((nl 0).length:Int))=false:=by rw[z9b];rfl
  simp only[go_sem,h0,h1,j3m,List.length_map,e1]
  refine he _ _ ?_
  simp only[go_sem,h0]
  rw[x4n]
  rw[Nat.gcd_zero_right] at hg
  rw[hg]
  exact hT _
 ·have hnm:=x4m hpos hm
  have e1:decide ((0:Int) < ((nl m).length:Int))=true:=by rw[hnm];rfl
  simp only[go_sem,h0,h1,j3m,List.length_map,e1,z0a (v7m hx' hpos hm)]
  refine hn (x' % m) _ (Nat.mod_lt _ hpos) ⟨m,Nat.lt_trans (Nat.mod_lt _ hpos) hm,by rw[hnm];simp, ?_,rfl,rfl,rfl⟩
  rw[←hg,Nat.gcd_comm x' m,Nat.gcd_rec m x',Nat.gcd_comm]
theorem x7s {a b:List Nat}:z1p (a++b)=z1p a * 10 ^ b.length + z1p b:=by
 induction a with
 | nil=>simp[z1p]
 | cons c a ih=>rw[List.cons_append,z4t,z4t,ih,List.length_append,Nat.pow_add,Nat.add_mul,Nat.mul_assoc];omega
theorem k6t {B clk:Nat} {H:List AObj} {c:List Nat} {v0 v3 v4:AV} {ts:Tmps} {ks:List Kf} {Q:Post} (hd:∀ x∈c,48≤x∧x≤57) (hl:c.length≤9) (h0:ts 0=v0) (h3:ts 3=v3) (h4:ts 4=v4) (h5:ts 5= .int .u32 0) (h20:ts 20= .sl (bytes c) .no) (h21:ts 21= .int .i64 (c.length:Int)) (h22:ts 22= .int .i64 0)
  (hQ:∀ (ts':Tmps) (clk':Nat),ts' 0=v0→ts' 3=v3→ts' 4=v4→ts' 5= .int .u32 (z1p c:Int)→K Gam B (.exit 2) ks ⟨ts',H,clk'⟩ Q):K Gam B (.loop x2o) ks ⟨ts,H,clk⟩ Q:=by
 refine z0y (fun m q=>∃ j:Nat,j≤c.length∧m=c.length - j∧q.ts 0=v0∧q.ts 3=v3∧q.ts 4=v4∧q.ts 5= .int .u32 (z1p (c.take j):Int)∧q.ts 20= .sl (bytes c) .no∧q.ts 21= .int .i64 (c.length:Int)∧q.ts 22= .int .i64 (j:Int)∧q.h=H) c.length ⟨0,by omega,rfl,h0,h3,h4,h5,h20,h21,h22,rfl⟩ ?_
 clear h0 h3 h4 h5 h20 h21 h22
 rintro m ⟨ts,h,clk⟩ P ⟨j,hj,rfl,h0,h3,h4,h5,h20,h21,h22,rfl⟩ hn he hr
 dsimp only at h0 h3 h4 h5 h20 h21 h22
 by_cases hlt:j < c.length
 ·have e1:decide ((j:Int) < (c.length:Int))=true:=by rw[decide_eq_true_iff];omega
  have hc:=hd c[j] (List.getElem_mem hlt)
  have hw:=q0k hlt
  have hb:=z6e (s:=c.take (j + 1)) fun x hx=>hd x (List.mem_of_mem_take hx)
  have hb2:10 ^ (c.take (j + 1)).length≤10 ^ 9:=Nat.pow_le_pow_right (by omega) (by rw[List.length_take];omega)
  have e2:IntKind.u8.wrap ((c[j]:Int) - 48)=((c[j] - 48:Nat):Int):=q2u hc
  have e3:IntKind.u32.wrap ((c[j] - 48:Nat):Int)=((c[j] - 48:Nat):Int):=u32_in (by omega) (by omega)
  have e4:IntKind.u32.wrap ((z1p (c.take j):Int) * 10)=((z1p (c.take j) * 10:Nat):Int):=by rw[u32_in (by omega) (by omega)];omega
  have e5:IntKind.u32.wrap (((z1p (c.take j) * 10:Nat):Int) + ((c[j] - 48:Nat):Int))=(z1p (c.take (j + 1)):Int):=by rw[u32_in (by omega) (by omega),hw];omega
  have e6:IntKind.i64.wrap ((j:Int) + 1)=((j + 1:Nat):Int):=z0d (by omega) (by omega)
  simp only[go_sem,h0,h3,h4,h5,h20,h21,h22,x2o,e1,q9q hlt,e2,e3,e4,e5,e6]
  exact hn (c.length - (j + 1)) _ (by omega) ⟨j + 1,hlt,rfl,h0,h3,h4,rfl,h20,h21,rfl,rfl⟩
 ·have e1:decide ((j:Int) < (c.length:Int))=false:=by rw[decide_eq_false_iff_not];omega
  have hjc:j=c.length:=by omega
  rw[hjc,List.take_length] at h5
  simp only[go_sem,h0,h3,h4,h5,h20,h21,h22,x2o,e1]
  refine he _ _ ?_
  exact hQ _ _ (by simp[z0b,h0]) (by simp[z0b,h3]) (by simp[z0b,h4]) (by simp[z0b,h5])
theorem v7o {h:List AObj} {s:List Nat} {i j:Nat} {k k':IntKind} (hij:i≤j) (hj:j≤s.length):slV h none (.str s) (some (.int k (i:Int))) (some (.int k' (j:Int))) none=some (.str ((s.take j).drop i),h):=by
 simp[slV,z2v,z4v,hij,hj]
theorem v7p {s:List Nat} (hd:∀ x∈s,48≤x∧x≤57) (hl:s.length≤1000):Pure Gam 357 [.str s] (.sl ((nl (z1p s)).map z4c) .no):=by
 refine Pure.of rfl y6v rfl rfl rfl rfl rfl fun D B clk T hB hT=> ?_
 simp only[go_sem,w7s,hB]
 refine z0y (fun m q=>∃ (j:Nat) (acc:List Nat) (t:Tip) (a o:AObj),m=(s.length + 9) - 9 * j∧9 * j≤s.length + 8∧acc.length=j∧(∀ x∈acc,x < 1000000000)∧z7t acc=z1p (s.drop (s.length - 9 * j))∧q.ts 0= .str s∧q.ts 3= .sl (acc.map z4c) t∧q.ts 4= .int .i64 ((s.length:Int) - 9 * j)∧q.h=D++[a,o]∧z8k B 1 o t 1) (s.length + 9) ⟨0,[], .nil,_,_,rfl,by omega,rfl,by simp,by simp[z7t,z1p],rfl,rfl,by simp[z0b],rfl, .inl rfl⟩ ?_
 rintro m ⟨ts,h,clk⟩ P ⟨j,acc,t,a,o,rfl,hj,hal,hab,hv,h0,h3,h4,rfl,ht⟩ hn he hr
 dsimp only at h0 h3 h4
 by_cases hlt:9 * j < s.length
 ·have e1:decide ((0:Int) < (s.length:Int) - 9 * j)=true:=by rw[decide_eq_true_iff];omega
  have e0:(s.length:Int) - 9 * j=((s.length - 9 * j:Nat):Int):=by omega
  have e2:IntKind.i64.wrap ((s.length:Int) - 9 * j - 9)=(s.length:Int) - 9 * j - 9:=z0d (by omega) (by omega)
  have e3:(if (0:Int) > (s.length:Int) - 9 * j - 9 then (0:Int) else (s.length:Int) - 9 * j - 9)=((s.length - 9 * j - 9:Nat):Int):=by
   split <;> omega
  have hsl:∀ h,slV h none (.str s) (some (.int .i64 ((s.length - 9 * j - 9:Nat):Int))) (some (.int .i64 ((s.length:Int) - 9 * j))) none=some (.str ((s.take (s.length - 9 * j)).drop (s.length - 9 * j - 9)),h):=fun h=>by
   rw[e0]
   exact v7o (by omega) (by omega)
  generalize hcc:(s.take (s.length - 9 * j)).drop (s.length - 9 * j - 9)=c at hsl
  have hcl:c.length=s.length - 9 * j - (s.length - 9 * j - 9):=by rw[←hcc];simp
  have hcd:∀ x∈c,48≤x∧x≤57:=fun x hx=>by
   rw[←hcc] at hx
   exact hd x (List.mem_of_mem_take (List.mem_of_mem_drop hx))
  have hcw:=z6e hcd
  have hcw9:10 ^ c.length≤10 ^ 9:=Nat.pow_le_pow_right (by omega) (by omega)
  have hsuf:s.drop (s.length - 9 * j - 9)=c++s.drop (s.length - 9 * j):=by
   rw[←hcc,←List.drop_append_of_le_length (by simp),List.take_append_drop]
  have htb:∀ s':List Nat,(s'.map fun (b:Nat)=>AV.int .u8 (Int.ofNat b))=bytes s':=fun _=>rfl
  have hbl:(bytes c).length=c.length:=by simp[bytes]
  simp only[go_sem,h0,h3,h4,j3l,e1,e2,e3,hsl,htb,hbl]
  refine k6t (v0:= .str s) (v3:= .sl (acc.map z4c) t) (v4:= .int .i64 ((s.length:Int) - 9 * j)) hcd (by omega) (by simp[z0b,h0]) (by simp[z0b,h3]) (by simp[z0b,h4]) (by simp[z0b]) (by simp[z0b]) (by simp[z0b]) (by simp[z0b]) fun ts' clk' q0 q3 q4 q5=> ?_
  simp only[go_sem,q0,q3,q4,q5]
  rw[show [AV.int .u32 (z1p c:Int)]=[z1p c].map z4c from rfl,z0j hB rfl ht q9s q9s (by simp only[List.length_map,List.length_singleton];omega)]
  simp only[go_sem,q0,q3,q4,q5,e2,←List.map_append]
  refine hn (s.length + 9 - 9 * (j + 1)) _ (by omega) ⟨j + 1,acc++[z1p c],_,_,_,rfl,by omega,by simp[hal], ?_, ?_,by simp[z0b,q0],by simp[z0b], ?_,rfl, .inr (.inr ⟨_,rfl,rfl⟩)⟩
  ·intro x hx
   rw[List.mem_append] at hx
   rcases hx with hx | hx
   ·exact hab x hx
   ·simp at hx;omega
  ·rw[show s.length - 9 * (j + 1)=s.length - 9 * j - 9 by omega,hsuf,x7s,q3x,hv,hal]
   have:(s.drop (s.length - 9 * j)).length=9 * j:=by simp;omega
   rw[this,Nat.pow_mul]
   simp only[z7t,Nat.mul_zero,Nat.add_zero]
   rw[Nat.mul_comm (z1p c)]
   have:(10 ^ 9:Nat)=1000000000:=by decide
   rw[this]
   omega
  ·simp only[z0b,z0,cond_true,cond_false]
   congr 1
   omega
 ·have e1:decide ((0:Int) < (s.length:Int) - 9 * j)=false:=by rw[decide_eq_false_iff_not];omega
  rw[show s.length - 9 * j=0 by omega,List.drop_zero] at hv
  have hp:=j0l (l:=acc) (t:=t) hab (by omega)
  rw[hv] at hp
  simp only[go_sem,h0,h3,h4,j3l,e1]
  refine he _ _ ?_
  simp only[go_sem,h3,z0a hp]
  rw[x4n]
  exact hT _
theorem x7t {h:List AObj}:z7d h .neq .iface .nilif .nilif=some (.bool false,h):=(rfl)
theorem w8q {h:List AObj}:z7d h .shl (.one .int) (.int .u64 1) (.int .u64 64)=some (.int .u64 0,h):=by
 have:IntKind.u64.wrap (2 ^ min 64 IntKind.u64.bits)=0:=by decide
 simp[z7d,z4q,q7k,this]
theorem w8r {h:List AObj}:z7d h .shl (.one .int) (.int .u64 1) (.int .u64 63)=some (.int .u64 9223372036854775808,h):=by
 have:IntKind.u64.wrap (2 ^ min 63 IntKind.u64.bits)=9223372036854775808:=by decide
 simp[z7d,z4q,q7k,this]
theorem v7q {n:Nat} (hn:n < 1000000000):Pure Gam 367 [.str (dec n), .int .i64 10, .int .i64 64] (.tup [.int .u64 (n:Int), .nilif]):=by
 refine Pure.of rfl y6s rfl rfl rfl rfl rfl fun D B clk T hB hT=> ?_
 have hd:=z1o n
 have hl:(dec n).length≤9:=z8w (by omega) hn
 have e1:decide (dec n=[])=false:=by simp[z8v n]
 have w1:IntKind.u64.wrap 64=64:=by decide
 have w2:IntKind.u64.wrap (0 - 1)=18446744073709551615:=by decide
 have htb:((dec n).map fun (b:Nat)=>AV.int .u8 (Int.ofNat b))=bytes (dec n):=rfl
 simp only[go_sem,w7q,e1,Int.reduceEq,Int.reduceLE,Int.reduceLT,decide_true,decide_false,w1,w8q,w2,htb,q4z]
 refine z0y (fun m q=>∃ j:Nat,j≤(dec n).length∧m=(dec n).length - j∧q.ts 1= .int .i64 10∧q.ts 8= .bool false∧q.ts 10= .int .u64 1844674407370955162∧q.ts 11= .int .u64 18446744073709551615∧q.ts 12= .bool false∧q.ts 13= .int .u64 (z1p ((dec n).take j):Int)∧q.ts 99= .sl (bytes (dec n)) .no∧q.ts 100= .int .i64 ((dec n).length:Int)∧q.ts 101= .int .i64 (j:Int)∧q.h=D++[]) (dec n).length ⟨0,by omega,rfl,rfl,rfl,rfl,rfl,rfl,rfl,rfl,rfl,rfl,rfl⟩ ?_
 rintro m ⟨ts,h,clk⟩ P ⟨j,hj,rfl,h1,h8,h10,h11,h12,h13,h99,h100,h101,rfl⟩ hn' he hr
 dsimp only at h1 h8 h10 h11 h12 h13 h99 h100 h101
 by_cases hlt:j < (dec n).length
 ·have f1:decide ((j:Int) < ((dec n).length:Int))=true:=by rw[decide_eq_true_iff];omega
  have hc:=hd _ (List.getElem_mem hlt)
  have hw:=q0k hlt
  have hb:=z6e (s:=(dec n).take (j + 1)) fun x hx=>hd x (List.mem_of_mem_take hx)
  have hb2:10 ^ ((dec n).take (j + 1)).length≤10 ^ 9:=Nat.pow_le_pow_right (by omega) (by rw[List.length_take];omega)
  generalize hcc:(dec n)[j]=c at hc hw
  have hidx:∀ h,z1m h 1 (.sl (bytes (dec n)) .no) (.int .i64 (j:Int))=some (.iptr [.int .u8 (c:Int)] 0,h):=fun h=>by rw[q9q hlt,hcc]
  have f2:decide ((c:Int)=95)=false:=by rw[decide_eq_false_iff_not];omega
  have f3:decide ((48:Int)≤(c:Int))=true:=by rw[decide_eq_true_iff];omega
  have f4:decide ((c:Int)≤57)=true:=by rw[decide_eq_true_iff];omega
  have f5:IntKind.u8.wrap ((c:Int) - 48)=((c - 48:Nat):Int):=q2u hc
  have f6:IntKind.u8.wrap 10=10:=by decide
  have f7:decide ((10:Int)≤((c - 48:Nat):Int))=false:=by rw[decide_eq_false_iff_not];omega
  have f8:decide ((1844674407370955162:Int)≤(z1p ((dec n).take j):Int))=false:=by rw[decide_eq_false_iff_not];omega
  have f9:IntKind.u64.wrap 10=10:=by decide
  have f10:IntKind.u64.wrap ((z1p ((dec n).take j):Int) * 10)=((z1p ((dec n).take j) * 10:Nat):Int):=by rw[u64_in (by omega) (by omega)];omega
  have f11:IntKind.u64.wrap ((c - 48:Nat):Int)=((c - 48:Nat):Int):=u64_in (by omega) (by omega)
  have f12:IntKind.u64.wrap (((z1p ((dec n).take j) * 10:Nat):Int) + ((c - 48:Nat):Int))=(z1p ((dec n).take (j + 1)):Int):=by rw[u64_in (by omega) (by omega),hw];omega
  have f13:decide ((z1p ((dec n).take (j + 1)):Int) < ((z1p ((dec n).take j) * 10:Nat):Int))=false:=by rw[decide_eq_false_iff_not];omega
  have f14:decide ((18446744073709551615:Int) < (z1p ((dec n).take (j + 1)):Int))=false:=by rw[decide_eq_false_iff_not];omega
  have f15:IntKind.i64.wrap ((j:Int) + 1)=((j + 1:Nat):Int):=z0d (by omega) (by omega)
  simp only[go_sem,h1,h8,h10,h11,h12,h13,h99,h100,h101,j3j,f1,hidx,f2,f3,f4,f5,f6,f7,f8,f9,f10,f11,f12,f13,f14,f15]
  exact hn' ((dec n).length - (j + 1)) _ (by omega) ⟨j + 1,hlt,rfl,h1,h8,h10,h11,h12,rfl,h99,h100,rfl,rfl⟩
 ·have f1:decide ((j:Int) < ((dec n).length:Int))=false:=by rw[decide_eq_false_iff_not];omega
  have hjc:j=(dec n).length:=by omega
  rw[hjc,List.take_length,z2g] at h13
  simp only[go_sem,h1,h8,h10,h11,h12,h13,h99,h100,h101,j3j,f1]
  refine he _ _ ?_
  simp only[go_sem,h12,h13]
  rw[z0h rfl rfl]
  exact hT _
theorem v7r {n:Nat} (hn:n < 1000000000):Pure Gam 362 [.str (dec n), .int .i64 10, .int .i64 64] (.tup [.int .i64 (n:Int), .nilif]):=by
 refine Pure.of rfl y6r rfl rfl rfl rfl rfl fun D B clk T hB hT=> ?_
 obtain⟨c,t,hct⟩:=List.exists_cons_of_ne_nil (z8v n)
 have hc:=z1o n c (by rw[hct];exact List.mem_cons_self)
 have e1:decide (dec n=[])=false:=by simp[z8v n]
 have e2:∀ h k,q4s h (.str (dec n)) (.int k 0)=some (.int .u8 (c:Int),h):=fun h k=>by rw[hct];exact z6b
 have e3:decide ((c:Int)=43)=false:=by rw[decide_eq_false_iff_not];omega
 have e4:decide ((c:Int)=45)=false:=by rw[decide_eq_false_iff_not];omega
 have e5:IntKind.i64.wrap (64 - 1)=63:=by decide
 have e6:IntKind.u64.wrap 63=63:=by decide
 have e7:decide ((9223372036854775808:Int)≤(n:Int))=false:=by rw[decide_eq_false_iff_not];omega
 have e8:IntKind.i64.wrap (n:Int)=(n:Int):=z0d (by omega) (by omega)
 simp only[go_sem,w7p,e1,e2,e3,e4,z0a (v7q hn),x7t,Int.reduceEq,decide_false,e5,e6,w8r,Bool.not_false,e7,e8]
 rw[z0h rfl rfl]
 exact hT _
theorem x4o {n:Nat} (hn:n < 1000000000):Pure Gam 355 [.str (dec n), .int .i64 10, .int .i64 64] (.tup [.int .i64 (n:Int), .nilif]):=by
 refine Pure.of rfl y6q rfl rfl rfl rfl rfl fun D B clk T hB hT=> ?_
 simp only[go_sem,w7o,z0a (v7r hn),x7t]
 rw[z0h rfl rfl]
 exact hT _
theorem v7s {a b:Nat} (hb:b < 2 ^ 62):Pure Gam 356 [.int .i64 (a:Int), .int .i64 (b:Int)] (.int .i64 (Nat.gcd a b:Int)):=by
 refine Pure.of rfl y6t rfl rfl rfl rfl rfl fun D B clk T hB hT=> ?_
 simp only[go_sem,w7r]
 refine z0y (fun m q=>∃ x:Nat,m < 2 ^ 62∧Nat.gcd x m=Nat.gcd a b∧q.ts 0= .int .i64 (x:Int)∧q.ts 1= .int .i64 (m:Int)∧q.h=D++[]) b ⟨a,hb,rfl,rfl,rfl,rfl⟩ ?_
 rintro m ⟨ts,h,clk⟩ P ⟨x,hm,hg,h0,h1,rfl⟩ hn he hr
 dsimp only at h0 h1
 rcases Nat.eq_zero_or_pos m with rfl | hpos
 ·simp only[go_sem,h0,h1,j3k,decide_true,Bool.not_true]
  refine he _ _ ?_
  simp only[go_sem,h0]
  rw[z2m]
  rw[Nat.gcd_zero_right] at hg
  rw[hg]
  exact hT _
 ·have e1:decide ((m:Int)=0)=false:=by rw[decide_eq_false_iff_not];omega
  have e2:((x:Int)).tmod (m:Int)=((x % m:Nat):Int):=IntWalk.up_tmod rfl rfl
  simp only[go_sem,h0,h1,j3k,e1,Bool.not_false,q6y (b:=(m:Int)) (by omega),e2]
  have hlt:=Nat.mod_lt x hpos
  refine hn (x % m) _ hlt ⟨m,by omega, ?_,rfl,rfl,rfl⟩
  rw[←hg,Nat.gcd_comm x m,Nat.gcd_rec m x,Nat.gcd_comm]
def x7u (n:Nat):Option Nat→List Nat
 | none=>dec n
 | some d=>dec n++47::dec d
def x4p (neg:Bool) (n:Nat) (d:Option Nat):List Nat:=if neg then 45::x7u n d else x7u n d
structure NumT (neg:Bool) (n:Nat) (d:Option Nat):Prop where
 pos:neg=true→n≠0
 len:n < 10 ^ 40
 den:∀ k,d=some k→2≤k∧k≤4∧Nat.gcd n k=1
theorem RatS.text {a:List Nat} (h:RatS a):∃ neg n d,a=x4p neg n d∧NumT neg n d:=by
 rcases h with ⟨z,rfl,h⟩ | ⟨z,d,rfl,h,h2,h4,hg⟩
 ·refine⟨decide (z < 0),z.natAbs,none, ?_,⟨fun hz=> ?_,h,by simp⟩⟩
  ·unfold z3d x4p x7u
   by_cases hz:z < 0 <;> simp[hz]
  ·simp at hz;omega
 ·refine⟨decide (z < 0),z.natAbs,some d, ?_,⟨fun hz=> ?_,h,fun k hk=>by injection hk with hk;subst hk;exact⟨h2,h4,hg⟩⟩⟩
  ·unfold z3d x4p x7u
   by_cases hz:z < 0 <;> simp[hz]
  ·simp at hz;omega
def v7t:Option Nat→List Nat
 | none=>[]
 | some d=>dec d
theorem w8s {n:Nat}:∀ c∈dec n,c≠47:=fun c hc=>by have:=z1o n c hc;omega
theorem x4q {neg:Bool} {n:Nat} {d:Option Nat}:Pure Gam 322 [.str (x4p neg n d), .str [45]] (.tup [.str (x7u n d), .bool neg]):=by
 cases neg
 ·obtain⟨c,t,hct⟩:=List.exists_cons_of_ne_nil (z8v n)
  have hc:=z1o n c (by rw[hct];exact List.mem_cons_self)
  have hb:∃ t',x7u n d=c::t':=by cases d <;> simp[x7u,hct]
  obtain⟨t',ht⟩:=hb
  simp only[x4p,Bool.false_eq_true,if_false,ht]
  exact q9p (by omega)
 ·exact q9o
theorem x4r {n:Nat} {d:Option Nat} (hl:(dec n).length≤1000):Pure Gam 354 [.str (x7u n d), .str [47]] (.tup [.str (dec n), .str (v7t d), .bool d.isSome]):=by
 cases d
 ·exact x7p (z8v n) w8s
 ·exact j6p (z8v n) w8s hl
theorem q9u {d:Nat} (h:d≤4):(dec d).length≤1:=by rw[z9q (by omega)];simp
theorem j0m {neg:Bool} {n:Nat} {d:Option Nat} (hl:(dec n).length≤1000) (h9:9 < (dec n).length):Pure Gam 346 [.str (x4p neg n d)] (.tup [.agg [.int .i64 0, .int .i64 0], .bool false]):=by
 refine Pure.of rfl w7i rfl rfl rfl rfl rfl fun D B clk T hB hT=> ?_
 have e1:decide ((9:Int) < ((dec n).length:Int))=true:=by rw[decide_eq_true_iff];omega
 simp only[go_sem,v6p,hB,z0a x4q,z0a (x4r hl),e1,z0n,z0m,z0g]
 rw[z0h rfl rfl]
 exact hT _
theorem x4s {neg:Bool} {n:Nat} {d:Option Nat} (ht:NumT neg n d) (h9:(dec n).length≤9) (hn:n < 1000000000):∃ p q:Int,Pure Gam 346 [.str (x4p neg n d)] (.tup [.agg [.int .i64 p, .int .i64 q], .bool true]):=by
 refine⟨if neg then IntKind.i64.wrap (0 - (n:Int)) else n,(d.getD 1:Nat), ?_⟩
 refine Pure.of rfl w7i rfl rfl rfl rfl rfl fun D B clk T hB hT=> ?_
 have e1:decide ((9:Int) < ((dec n).length:Int))=false:=by rw[decide_eq_false_iff_not];omega
 have hden:(v7t d).length≤1:=by
  cases d with
  | none=>simp[v7t]
  | some k=>exact q9u (ht.den k rfl).2.1
 have e2:decide ((9:Int) < ((v7t d).length:Int))=false:=by rw[decide_eq_false_iff_not];omega
 have hp1:=q6d (n:=n) (by omega)
 have e3:decide (dec n=[48])=decide (n=0):=z3t
 simp only[go_sem,v6p,hB,z0a x4q,z0a (x4r (n:=n) (d:=d) (by omega)),e1,e2,z0a hp1,Bool.not_true,e3]
 have hfin:∀ (r:Int),r=(if neg then IntKind.i64.wrap (0 - (n:Int)) else n)→∀ h',T (.tup [.agg [.int .i64 r, .int .i64 (d.getD 1:Nat)], .bool true]) h':=fun r hr h'=>hr ▸ hT h'
 rcases Nat.eq_zero_or_pos n with rfl | hpos
 ·have hneg:neg=false:=by cases neg with
   | false=>rfl
   | true=>exact absurd rfl (ht.pos rfl)
  have hd0:d=none:=by cases d with
   | none=>rfl
   | some k=>have:=ht.den k rfl;rw[Nat.gcd_zero_left] at this;omega
  subst hneg;subst hd0
  simp only[go_sem,decide_true,Option.isSome_none,z0a (x4o (n:=0) (by omega)),hB,z0n,z0m,z0g]
  rw[z0h rfl rfl]
  exact hfin _ rfl _
 ·have e4:decide (n=0)=false:=by rw[decide_eq_false_iff_not];omega
  simp only[go_sem,e4,z0a (x4o hn)]
  cases d with
  | none=>
    cases neg
    ·simp only[go_sem,Option.isSome_none,hB,z0n,z0m,z0g]
     rw[z0h rfl rfl]
     exact hfin _ rfl _
    ·simp only[go_sem,Option.isSome_none,hB,z0n,z0m,z0g]
     rw[z0h rfl rfl]
     exact hfin _ rfl _
  | some k=>
    obtain⟨hk2,hk4,hg⟩:=ht.den k rfl
    have hp2:=q6d (n:=k) (by have:=q9u hk4;omega)
    have e5:decide ((k:Int) < 2)=false:=by rw[decide_eq_false_iff_not];omega
    have hp3:=v7s (a:=n) (b:=k) (by omega)
    rw[hg] at hp3
    cases neg
    ·simp only[go_sem,Option.isSome_some,v7t,z0a hp2,Bool.not_true,z0a (x4o (n:=k) (by omega)),e5,z0a hp3,decide_true,hB,z0n,z0m,z0g]
     rw[z0h rfl rfl]
     exact hfin _ rfl _
    ·simp only[go_sem,Option.isSome_some,v7t,z0a hp2,Bool.not_true,z0a (x4o (n:=k) (by omega)),e5,z0a hp3,decide_true,hB,z0n,z0m,z0g]
     rw[z0h rfl rfl]
     exact hfin _ rfl _
theorem w8t {n:Nat} (hn:n < 10 ^ 40):(nl n).length≤5:=w8p (k:=5) (by
 have:(1000000000:Nat) ^ 5=10 ^ 45:=by decide
 rw[this]
 have:(10:Nat) ^ 40≤10 ^ 45:=Nat.pow_le_pow_right (by omega) (by omega)
 omega)
theorem j3r {n:Nat} (hl:(dec n).length≤1000):Pure Gam 357 [.str (dec n)] (.sl ((nl n).map z4c) .no):=by
 have:=v7p (s:=dec n) (z1o n) hl
 rwa [z2g] at this
theorem v7u {neg:Bool} {n:Nat} {d:Option Nat} (ht:NumT neg n d):∃ v:AV,v.ids=[]∧v.obs=[]∧(∃ a b c,v= .agg [.bool a, .sl b .no, .sl c .no])∧Pure Gam 347 [.str (x4p neg n d)] (.tup [v, .bool true]):=by
 have hlen:(dec n).length≤40:=z8w (by omega) ht.len
 have hp1:=q6d (n:=n) (by omega)
 have hpn:=j3r (n:=n) (by omega)
 have e3:decide (dec n=[48])=decide (n=0):=z3t
 have e13:decide (dec n=[48])=true→neg=false∧d=none:=by
  rw[e3,decide_eq_true_iff]
  rintro rfl
  refine⟨?_, ?_⟩
  ·cases neg with
   | false=>rfl
   | true=>exact absurd rfl (ht.pos rfl)
  ·cases d with
   | none=>rfl
   | some k=>have:=ht.den k rfl;rw[Nat.gcd_zero_left] at this;omega
 have w1:(AV.sl [.int .u32 1] .full).cv= .sl ([1].map z4c) .no:=rfl
 cases d with
 | none=>
   refine⟨.agg [.bool neg, .sl ((nl n).map z4c) .no, .sl ([1].map z4c) .no],by simp[AV.ids,idsL,z3j,z4c],rfl,⟨_,_,_,rfl⟩, ?_⟩
   refine Pure.of rfl w7j rfl rfl rfl rfl rfl fun D B clk T hB hT=> ?_
   simp only[go_sem,v6q,hB,z0a x4q,z0a (x4r (n:=n) (d:=none) (by omega)),z0a hp1,Bool.not_true,Option.isSome_none]
   have key:∀ x:Bool,decide (dec n=[48])=x→T (.tup [.agg [.bool neg, .sl ((nl n).map z4c) .no, .sl [.int .u32 1] .no], .bool true])=T (.tup [.agg [.bool neg, .sl ((nl n).map z4c) .no, .sl ([1].map z4c) .no], .bool true]):=fun _ _=>rfl
   cases hz:decide (dec n=[48]) with
   | true=>
     obtain⟨rfl,_⟩:=e13 hz
     simp only[go_sem,z0a hpn,hB,Bool.not_false,z0n,z0m,z0g]
     rw[z0h rfl (by simp[z1k,AV.cv,cvL,AV.ids,idsL,z3j,z4c])]
     exact hT _
   | false=>
     simp only[go_sem,z0a hpn,hB,Bool.not_false,z0n,z0m,z0g]
     rw[z0h rfl (by simp[z1k,AV.cv,cvL,AV.ids,idsL,z3j,z4c])]
     exact hT _
 | some k=>
   obtain⟨hk2,hk4,hg⟩:=ht.den k rfl
   have hnz:decide (dec n=[48])=false:=by
    cases hz:decide (dec n=[48]) with
    | false=>rfl
    | true=>exact absurd (e13 hz).2 (by simp)
   have hkl:=q9u hk4
   have hp2:=q6d (n:=k) (by omega)
   have hpk:=j3r (n:=k) (by omega)
   have e5:decide (dec k=[48])=false:=by rw[z3t,decide_eq_false_iff_not];omega
   have e6:decide (dec k=[49])=false:=by rw[q6c,decide_eq_false_iff_not];omega
   have hpg:=v7n (x:=n) (y:=k) (by have:=w8t ht.len;omega) (by omega)
   rw[hg,show nl 1=[1] from x4m (by omega) (by omega)] at hpg
   have hpo:=v7k (l:=[1])
   have e7:decide (([1]:List Nat)=[1])=true:=rfl
   rw[e7,List.map_cons,List.map_nil] at hpo
   refine⟨.agg [.bool neg, .sl ((nl n).map z4c) .no, .sl ((nl k).map z4c) .no],by simp[AV.ids,idsL,z3j,z4c],rfl,⟨_,_,_,rfl⟩, ?_⟩
   refine Pure.of rfl w7j rfl rfl rfl rfl rfl fun D B clk T hB hT=> ?_
   simp only[go_sem,v6q,hB,z1i,z0a x4q,z0a (x4r (n:=n) (d:=some k) (by omega)),z0a hp1,Bool.not_true,Option.isSome_some,hnz,z0a hpn,v7t,z0a hp2,e5,e6,z0a hpk,z0a hpg,z0a hpo,z0n,z0m,z0g]
   refine⟨by simp[z1f,apart,z0i,z1d,z1h,AOp.isCall,hB], ?_⟩
   rw[z0h rfl (by simp[z1k,AV.cv,cvL,AV.ids,idsL,z3j,z4c])]
   exact hT _
theorem k1m {neg:Bool} {n:Nat} {d:Option Nat} (ht:NumT neg n d):Pure Gam 321 [.str (x4p neg n d)] (.bool true):=by
 have hlen:(dec n).length≤40:=z8w (by omega) ht.len
 by_cases h9:9 < (dec n).length
 ·have hp1:=j0m (neg:=neg) (n:=n) (d:=d) (by omega) h9
  obtain⟨v,hv1,hv2,⟨a,b,c,rfl⟩,hp2⟩:=v7u ht
  refine Pure.of rfl w7d rfl rfl rfl rfl rfl fun D B clk T hB hT=> ?_
  simp only[go_sem,v6l,hB,z0a hp1,z0a hp2]
  rw[z0e]
  exact hT _
 ·have hn:n < 1000000000:=by
   have h1:=z6e (z1o n)
   rw[z2g] at h1
   have h2:10 ^ (dec n).length≤10 ^ 9:=Nat.pow_le_pow_right (by omega) (by omega)
   omega
  obtain⟨p,q,hp⟩:=x4s ht (by omega) hn
  refine Pure.of rfl w7d rfl rfl rfl rfl rfl fun D B clk T hB hT=> ?_
  simp only[go_sem,v6l,hB,z0a hp]
  rw[z0e]
  exact hT _
theorem v7v {k:Nat} (h1:1≤k) (h5:k≤5):Pure Gam 278 [.str (dec k)] (.int .i64 1):=by
 have hv:Pure Gam 321 [.str (dec k)] (.bool true):=k1m (neg:=false) (n:=k) (d:=none) ⟨by simp,by omega,by simp⟩
 have e1:decide (dec k=[48])=false:=by rw[z3t,decide_eq_false_iff_not];omega
 have e2:∀ h q,q4s h (.str (dec k)) (.int q 0)=some (.int .u8 ((48 + k:Nat):Int),h):=fun h q=>by rw[z9q (by omega)];exact z6b
 have e3:decide (((48 + k:Nat):Int)=45)=false:=by rw[decide_eq_false_iff_not];omega
 refine Pure.of rfl y7m rfl rfl rfl rfl rfl fun D B clk T hB hT=> ?_
 simp only[go_sem,w8j,z0a hv,Bool.not_true,e1,e2,e3]
 rw[z2m]
 exact hT _
theorem j0n {a:List Nat} (h:IntS a):Pure Gam 275 [.int .i64 2, .str a] (.bool true):=by
 obtain⟨z,rfl,hz⟩:=h
 have hlen:(dec z.natAbs).length≤40:=z8w (by omega) hz
 have hp:=k1h (z:=z) (by omega)
 refine Pure.of rfl w8h rfl rfl rfl rfl rfl fun D B clk T hB hT=> ?_
 simp only[go_sem,v7b,Int.reduceEq,decide_true,z0a hp]
 rw[z0e]
 exact hT _
theorem x7v {a:List Nat} (h:RatS a):Pure Gam 275 [.int .i64 3, .str a] (.bool true):=by
 obtain⟨neg,n,d,rfl,ht⟩:=h.text
 refine Pure.of rfl w8h rfl rfl rfl rfl rfl fun D B clk T hB hT=> ?_
 simp only[go_sem,v7b,Int.reduceEq,decide_true,decide_false,z0a (k1m ht)]
 rw[z0e]
 exact hT _
end Go.Proofs.YtahdahokpjigiaaGreatDoor.Am
