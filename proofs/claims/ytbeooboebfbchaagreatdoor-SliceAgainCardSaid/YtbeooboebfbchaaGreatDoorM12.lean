/- What an operation of the abstract machine touches. What an operation of the abstract machine touches: all operations that are no calls. What an operation of the abstract machine leaves as it was. Equality of the abstract machine's objects, as it is computed. What a call of the abstract machine looks at, and what it leaves. A call of the abstract machine in two heaps that agree on what it looks at. A call of the abstract machine leaves what it does not look at as it was. -/
import Derived.Test.YtbeooboebfbchaaGreatDoorM11
set_option linter.unusedVariables false
set_option linter.unusedSimpArgs false
namespace Go.Proofs.YtbeooboebfbchaaGreatDoor.Am
open Go
set_option maxRecDepth 100000
def Same (S : List Nat) (h k : List AObj) : Prop := ∀ s ∈ S, h[s]? = k[s]?
theorem Same.set {S : List Nat} {h k : List AObj} (hs : Same S h k) (i : Nat) (o : AObj) : Same S (h.set i o) (k.set i o) := fun s hm => by
 have := hs s hm
 simp only [List.getElem?_set]
 by_cases hi : i = s
 · subst hi
   have hh : i < h.length ↔ i < k.length := by
     constructor
     · intro hl
       rw [List.getElem?_eq_getElem hl] at this
       exact (List.getElem?_eq_some_iff.1 this.symm).1
     · intro hl
       rw [List.getElem?_eq_getElem hl] at this
       exact (List.getElem?_eq_some_iff.1 this).1
   simp [hh]
 · simp [hi, this]
theorem blkAt_same {h k : List AObj} {s g : Nat} (hs : h[s]? = k[s]?) : blkAt h s g = blkAt k s g := by unfold blkAt; rw [hs]
theorem mapAt_same {h k : List AObj} {s g : Nat} (hs : h[s]? = k[s]?) : mapAt h s g = mapAt k s g := by unfold mapAt; rw [hs]
theorem rowOf_same {h k : List AObj} {s g o l : Nat} (hs : h[s]? = k[s]?) : rowOf h s g o l = rowOf k s g o l := by unfold rowOf; rw [blkAt_same hs]
theorem Same.freeze1 {S : List Nat} {h k : List AObj} (hs : Same S h k) (i n : Nat) : Same S (freeze1 h i n) (freeze1 k i n) := fun s hm => by
 have he := hs s hm
 have get : ∀ h : List AObj, (Am.freeze1 h i n)[s]? = if i = s then (match h[s]? with | some (.blk g es row grow fz) => some (.blk g es row grow (max fz n)) | o => o) else h[s]? := fun h => by
   unfold Am.freeze1
   by_cases hi : i = s
   · subst hi
     rw [if_pos rfl]
     cases hc : h[i]? with
     | none => simp [hc]
     | some o =>
       have hlt := (List.getElem?_eq_some_iff.1 hc).1
       have hv := (List.getElem?_eq_some_iff.1 hc).2
       cases o <;> simp [hlt, hv]
   · rw [if_neg hi]
     split
     · rw [List.getElem?_set_ne hi]
     · rfl
 rw [get, get, he]
theorem Same.freezeAll {S : List Nat} : ∀ {h k : List AObj} (_ : Same S h k) (l : List (Nat × Nat)), Same S (Am.freezeAll h l) (Am.freezeAll k l)
 | _, _, hs, [] => hs
 | h, k, hs, x :: l => by
   rw [show x :: l = [x] ++ l from rfl, freezeAll_append, freezeAll_append, freezeAll_one, freezeAll_one]
   exact Same.freezeAll (hs.freeze1 x.1 x.2) l
mutual
theorem conv_same {h k : List AObj} : ∀ {v : AV}, Same (v.obs.map (·.1)) h k → conv h v = conv k v
 | .agg cs, hs => by
   simp only [conv]
   rw [convL_same (by simpa only [AV.obs] using hs)]
 | .tup cs, hs => by
   simp only [conv]
   rw [convL_same (by simpa only [AV.obs] using hs)]
 | .ob s g o l, hs => by
   simp only [conv]
   rw [rowOf_same (hs s (by simp [AV.obs]))]
 | .sl _ _, _ => rfl
 | .undef, _ => rfl
 | .int .., _ => rfl
 | .bool _, _ => rfl
 | .str _, _ => rfl
 | .ptr .., _ => rfl
 | .iptr _ _, _ => rfl
 | .nilptr, _ => rfl
 | .mp .., _ => rfl
 | .nilmap, _ => rfl
 | .fn _ _, _ => rfl
 | .nilfn, _ => rfl
 | .nilif, _ => rfl
 | .bwd _ _, _ => rfl
theorem convL_same {h k : List AObj} : ∀ {vs : List AV}, Same ((obsL vs).map (·.1)) h k → convL h vs = convL k vs
 | [], _ => rfl
 | v :: vs, hs => by
   simp only [convL]
   rw [conv_same (v := v) (fun s hm => hs s (by simp only [obsL, List.map_append, List.mem_append]; exact .inl hm)), convL_same (vs := vs) (fun s hm => hs s (by simp only [obsL, List.map_append, List.mem_append]; exact .inr hm))]
end
theorem pub_same {S : List Nat} {h k h1 : List AObj} {v v' : AV} (hs : Same S h k) (ho : ∀ s ∈ v.obs.map (·.1), s ∈ S) (hp : pub h v = some (v', h1)) : ∃ k1, pub k v = some (v', k1) ∧ Same S h1 k1 := by
 simp only [pub, Option.map_eq_some_iff, Prod.mk.injEq] at hp
 obtain ⟨v1, hc, rfl, rfl⟩ := hp
 refine ⟨_, ?_, hs.freezeAll v.obs⟩
 rw [conv_same (fun s hm => hs s (ho s hm))] at hc
 simp [pub, hc]
theorem pub_out {h h1 : List AObj} {v v' : AV} (hp : pub h v = some (v', h1)) (s : Nat) (hn : s ∉ v.obs.map (·.1)) : h1[s]? = h[s]? := by
 simp only [pub, Option.map_eq_some_iff, Prod.mk.injEq] at hp
 obtain ⟨v1, hc, rfl, rfl⟩ := hp
 exact freezeAll_out _ _ hn
theorem srcOf_same {h k : List AObj} {v : AV} (hs : Same v.ids h k) : srcOf h v = srcOf k v := by
 cases v <;> simp only [srcOf]
 rename_i s g o l
 exact rowOf_same (hs s (by simp [AV.ids]))
theorem lenVal_same {h k : List AObj} {t : LenTy} {v : AV} (hs : Same v.ids h k) : lenVal h t v = lenVal k t v := by
 cases t <;> cases v <;> simp only [lenVal]
 rename_i s g
 rw [mapAt_same (hs s (by simp [AV.ids]))]
theorem sliceVal_same {h k : List AObj} {e : Option Nat} {v : AV} {lo hi mx : Option AV} (hs : Same v.ids h k) : sliceVal h e v lo hi mx = sliceVal k e v lo hi mx := by
 cases e <;> cases v <;> simp only [sliceVal]
 rename_i s g o l
 rw [blkAt_same (hs s (by simp [AV.ids]))]
theorem mapOf_same {h k : List AObj} {v : AV} (hs : Same v.ids h k) : mapOf h v = mapOf k v := by
 cases v <;> simp only [mapOf]
 rename_i s g
 exact mapAt_same (hs s (by simp [AV.ids]))
def footP (base : Nat) (ts : Tmps) (a : AOp) : List Nat × List Nat := foot { fn := fun _ => none, ext := fun _ => none } [] [] base ts a
theorem foot_plain {Γ : AProg} {h h' : List AObj} {base : Nat} {ts : Tmps} {a : AOp} (hp : a.plain = true) : foot Γ h h' base ts a = footP base ts a := by
 cases a <;> simp [AOp.plain] at hp <;> rfl
theorem append_same {S : List Nat} {h k h1 : List AObj} {slot gen esz by_ : Nat} {mu : Bool} {x y v : AV} (hs : Same S h k) (hx : ∀ s ∈ x.ids, s ∈ S) (hy : ∀ s ∈ y.ids, s ∈ S) (ha : appendVal h slot gen esz by_ mu x y = some (v, h1)) :
   ∃ k1, appendVal k slot gen esz by_ mu x y = some (v, k1) ∧ Same S h1 k1 := by
 have hsrc := srcOf_same (v := y) (fun s hm => hs s (hy s hm))
 unfold appendVal at ha ⊢
 rw [hsrc] at ha
 split at ha
 · simp at ha
 · rename_i ys hys
   split at ha
   · simp at ha
   · rename_i hall
     rw [if_neg hall]
     split at ha
     · rename_i xs t
       split at ha
       · simp at ha
       · rename_i hc
         rw [if_neg hc]
         split at ha
         · rename_i hmu
           rw [if_pos hmu]
           split at ha
           · simp only [Option.some.injEq, Prod.mk.injEq] at ha
             obtain ⟨rfl, rfl⟩ := ha
             exact ⟨_, rfl, hs.set _ _⟩
           · simp only [Option.some.injEq, Prod.mk.injEq] at ha
             obtain ⟨rfl, rfl⟩ := ha
             exact ⟨_, rfl, hs.set _ _⟩
           · simp at ha
         · rename_i hmu
           rw [if_neg hmu]
           split at ha
           · simp only [Option.some.injEq, Prod.mk.injEq] at ha
             obtain ⟨rfl, rfl⟩ := ha
             exact ⟨_, rfl, hs.set _ _⟩
           · simp only [Option.some.injEq, Prod.mk.injEq] at ha
             obtain ⟨rfl, rfl⟩ := ha
             exact ⟨_, rfl, hs.set _ _⟩
           · rename_i s g
             have := hs s (hx s (by simp [AV.ids]))
             rw [this] at ha
             split at ha
             · rename_i g' e' heq
               split at ha
               · rename_i hg
                 simp only [Option.some.injEq, Prod.mk.injEq] at ha
                 obtain ⟨rfl, rfl⟩ := ha
                 refine ⟨_, ?_, (hs.set s _).set _ _⟩
                 rw [if_pos hg]
               · simp at ha
             · simp at ha
           · simp at ha
     · rename_i s g off len
       have hb : blkAt h s g = blkAt k s g := blkAt_same (hs s (hx s (by simp [AV.ids])))
       rw [hb] at ha
       split at ha
       · rename_i es grow fz heq
         split at ha
         · simp at ha
         · rename_i hc
           rw [if_neg hc]
           split at ha
           · rename_i he
             rw [if_pos he]
             simp only [Option.some.injEq, Prod.mk.injEq] at ha
             obtain ⟨rfl, rfl⟩ := ha
             exact ⟨_, rfl, hs⟩
           · rename_i he
             rw [if_neg he]
             split at ha
             · rename_i hgr
               rw [if_pos hgr]
               split at ha
               · rename_i hc2
                 rw [if_pos hc2]
                 simp only [Option.some.injEq, Prod.mk.injEq] at ha
                 obtain ⟨rfl, rfl⟩ := ha
                 exact ⟨_, rfl, (hs.set s _).set _ _⟩
               · simp at ha
             · rename_i hgr
               rw [if_neg hgr]
               split at ha
               · rename_i hc2
                 rw [if_pos hc2]
                 split at ha
                 · rename_i hc3
                   rw [if_pos hc3]
                   simp only [Option.some.injEq, Prod.mk.injEq] at ha
                   obtain ⟨rfl, rfl⟩ := ha
                   exact ⟨_, rfl, hs.set s _⟩
                 · simp at ha
               · rename_i hc2
                 rw [if_neg hc2]
                 split at ha
                 · rename_i hc3
                   rw [if_pos hc3]
                   simp only [Option.some.injEq, Prod.mk.injEq] at ha
                   obtain ⟨rfl, rfl⟩ := ha
                   exact ⟨_, rfl, hs.set _ _⟩
                 · simp at ha
       · simp at ha
     · simp at ha
theorem prim_same {S : List Nat} {h k h1 : List AObj} {base gen : Nat} {ts : Tmps} {a : AOp} {v : AV} (hs : Same S h k) (hf : ∀ s ∈ (footP base ts a).1 ++ (footP base ts a).2, s ∈ S) (hr : prim h base gen ts a = some (v, h1)) :
   ∃ k1, prim k base gen ts a = some (v, k1) ∧ Same S h1 k1 := by
 cases a with
 | move x =>
   simp only [prim, Option.some.injEq, Prod.mk.injEq] at hr ⊢
   obtain ⟨rfl, rfl⟩ := hr
   exact ⟨k, ⟨rfl, rfl⟩, hs⟩
 | pick c a b =>
   simp only [prim] at hr ⊢
   split at hr
   · simp only [Option.some.injEq, Prod.mk.injEq] at hr
     obtain ⟨rfl, rfl⟩ := hr
     exact ⟨k, rfl, hs⟩
   · simp at hr
 | alloc n z =>
   simp only [prim] at hr ⊢
   split at hr
   · simp at hr
   · rename_i hc
     rw [if_neg hc]
     simp only [Option.some.injEq, Prod.mk.injEq] at hr
     obtain ⟨rfl, rfl⟩ := hr
     exact ⟨_, rfl, hs.set _ _⟩
 | box n x =>
   simp only [prim] at hr ⊢
   split at hr
   · simp at hr
   · rename_i hc
     rw [if_neg hc]
     simp only [Option.some.injEq, Prod.mk.injEq] at hr
     obtain ⟨rfl, rfl⟩ := hr
     exact ⟨_, rfl, hs.set _ _⟩
 | build z ps =>
   simp only [prim, Option.map_eq_some_iff, Prod.mk.injEq] at hr ⊢
   obtain ⟨cs, h2, rfl, rfl⟩ := hr
   exact ⟨k, ⟨cs, h2, rfl, rfl⟩, hs⟩
 | buildSlice n mu z m ps =>
   simp only [prim] at hr ⊢
   split at hr
   · simp at hr
   · rename_i hc
     rw [if_neg hc]
     have hcv : convL h (ps.map fun p => p.2.ev ts) = convL k (ps.map fun p => p.2.ev ts) := convL_same fun s hm => hs s (hf s (by simp only [footP, foot, List.mem_append]; exact .inr (.inr hm)))
     rw [hcv] at hr
     split at hr
     · simp only [Option.map_eq_some_iff] at hr
       obtain ⟨es, h2, h3⟩ := hr
       cases mu with
       | true =>
         simp only [if_true, Prod.mk.injEq] at h3
         obtain ⟨rfl, rfl⟩ := h3
         exact ⟨_, by simp [h2], (hs.freezeAll _).set _ _⟩
       | false =>
         simp only [Bool.false_eq_true, if_false, Prod.mk.injEq] at h3
         obtain ⟨rfl, rfl⟩ := h3
         exact ⟨_, by simp [h2], hs.freezeAll _⟩
     · simp at hr
 | load sz x =>
   simp only [prim] at hr ⊢
   have hids : ∀ s ∈ (x.ev ts).ids, s ∈ S := fun s hm => hf s (by simp only [footP, foot, List.mem_append]; exact .inl hm)
   split at hr
   · rename_i s g i o heq
     have hb : blkAt h s g = blkAt k s g := blkAt_same (hs s (hids s (by simp [heq, AV.ids])))
     rw [hb] at hr
     split at hr
     · simp only [Option.bind_eq_some_iff, Option.map_eq_some_iff, Prod.mk.injEq] at hr
       obtain ⟨e, h2, v', h3, rfl, rfl⟩ := hr
       exact ⟨k, by simp [h2, h3], hs⟩
     · simp at hr
   · simp only [Option.map_eq_some_iff, Prod.mk.injEq] at hr ⊢
     obtain ⟨v', h3, rfl, rfl⟩ := hr
     exact ⟨k, ⟨v', h3, rfl, rfl⟩, hs⟩
   · simp at hr
 | store sz x y =>
   simp only [prim] at hr ⊢
   have hids : ∀ s ∈ (x.ev ts).ids, s ∈ S := fun s hm => hf s (by simp only [footP, foot, List.mem_append]; exact .inr (.inl hm))
   have hobs : ∀ s ∈ (y.ev ts).obs.map (·.1), s ∈ S := fun s hm => hf s (by simp only [footP, foot, List.mem_append]; exact .inr (.inr hm))
   split at hr
   · rename_i s g i o heq
     have hb : blkAt h s g = blkAt k s g := blkAt_same (hs s (hids s (by simp [heq, AV.ids])))
     rw [hb] at hr
     split at hr
     · rename_i es row grow fz hbk
       split at hr
       · rename_i e v1 h1' he hpub
         obtain ⟨k1', hpk, hsame⟩ : ∃ k1', (if row = true then pub k (y.ev ts) else some (y.ev ts, k)) = some (v1, k1') ∧ Same S h1' k1' := by
           cases row with
           | true =>
             simp only [if_true] at hpub ⊢
             exact pub_same hs hobs hpub
           | false =>
             simp only [Bool.false_eq_true, if_false, Option.some.injEq, Prod.mk.injEq] at hpub ⊢
             obtain ⟨rfl, rfl⟩ := hpub
             exact ⟨k, ⟨rfl, rfl⟩, hs⟩
         split at hr
         · rename_i hc
           simp only [Option.map_eq_some_iff, Prod.mk.injEq] at hr
           obtain ⟨cs, h2, rfl, rfl⟩ := hr
           refine ⟨_, ?_, hsame.set s _⟩
           rw [he, hpk]
           simp only [if_pos hc, h2, Option.map_some]
         · simp at hr
       · simp at hr
     · simp at hr
   · simp at hr
 | nilCheck x =>
   simp only [prim] at hr ⊢
   split at hr
   · simp only [Option.some.injEq, Prod.mk.injEq] at hr
     obtain ⟨rfl, rfl⟩ := hr
     exact ⟨k, rfl, hs⟩
   · simp only [Option.some.injEq, Prod.mk.injEq] at hr
     obtain ⟨rfl, rfl⟩ := hr
     exact ⟨k, rfl, hs⟩
   · simp at hr
 | binOp op t x y =>
   simp only [prim, Option.map_eq_some_iff, Prod.mk.injEq] at hr ⊢
   obtain ⟨cs, h2, rfl, rfl⟩ := hr
   exact ⟨k, ⟨cs, h2, rfl, rfl⟩, hs⟩
 | unOp op x =>
   simp only [prim, Option.map_eq_some_iff, Prod.mk.injEq] at hr ⊢
   obtain ⟨cs, h2, rfl, rfl⟩ := hr
   exact ⟨k, ⟨cs, h2, rfl, rfl⟩, hs⟩
 | cInt kd x =>
   simp only [prim] at hr ⊢
   split at hr
   · simp only [Option.some.injEq, Prod.mk.injEq] at hr
     obtain ⟨rfl, rfl⟩ := hr
     exact ⟨k, rfl, hs⟩
   · simp at hr
 | cStr x =>
   simp only [prim] at hr ⊢
   split at hr
   · simp only [Option.some.injEq, Prod.mk.injEq] at hr
     obtain ⟨rfl, rfl⟩ := hr
     exact ⟨k, rfl, hs⟩
   · simp at hr
 | toBytes x =>
   simp only [prim] at hr ⊢
   split at hr
   · simp only [Option.some.injEq, Prod.mk.injEq] at hr
     obtain ⟨rfl, rfl⟩ := hr
     exact ⟨k, rfl, hs⟩
   · simp at hr
 | ofBytes x =>
   simp only [prim] at hr ⊢
   have hids : ∀ s ∈ (x.ev ts).ids, s ∈ S := fun s hm => hf s (by simp only [footP, foot, List.mem_append]; exact .inl hm)
   have hsrc := srcOf_same (h := h) (k := k) (v := x.ev ts) (fun s hm => hs s (hids s hm))
   split at hr
   · simp at hr
   · rw [hsrc] at hr
     simp only [Option.map_eq_some_iff, Prod.mk.injEq] at hr ⊢
     obtain ⟨cs, h2, rfl, rfl⟩ := hr
     exact ⟨k, ⟨cs, h2, rfl, rfl⟩, hs⟩
 | makeMap n =>
   simp only [prim, Option.some.injEq, Prod.mk.injEq] at hr ⊢
   obtain ⟨rfl, rfl⟩ := hr
   exact ⟨_, ⟨rfl, rfl⟩, hs.set _ _⟩
 | lookup t z x ix ok =>
   simp only [prim] at hr ⊢
   have hids : ∀ s ∈ (x.ev ts).ids, s ∈ S := fun s hm => hf s (by simp only [footP, foot, List.mem_append]; exact .inl hm)
   rw [mapOf_same (h := h) (k := k) (v := x.ev ts) (fun s hm => hs s (hids s hm))] at hr
   split at hr
   · split at hr
     · rename_i hc
       rw [if_pos hc]
       simp only [Option.map_eq_some_iff, Prod.mk.injEq] at hr ⊢
       obtain ⟨cs, h2, rfl, rfl⟩ := hr
       exact ⟨k, ⟨cs, h2, rfl, rfl⟩, hs⟩
     · simp at hr
   · simp at hr
 | mapUpdate t m kk x =>
   simp only [prim] at hr ⊢
   have hids : ∀ s ∈ (m.ev ts).ids, s ∈ S := fun s hm => hf s (by simp only [footP, foot, List.mem_append]; exact .inr (.inl hm))
   have hobs : ∀ s ∈ (x.ev ts).obs.map (·.1), s ∈ S := fun s hm => hf s (by simp only [footP, foot, List.mem_append]; exact .inr (.inr hm))
   split at hr
   · rename_i s g heq
     have hb : mapAt h s g = mapAt k s g := mapAt_same (hs s (hids s (by simp [heq, AV.ids])))
     rw [hb] at hr
     split at hr
     · rename_i es v1 h1' hes hpub
       obtain ⟨k1', hpk, hsame⟩ := pub_same hs hobs hpub
       split at hr
       · rename_i hc
         simp only [Option.map_eq_some_iff, Prod.mk.injEq] at hr
         obtain ⟨cs, h2, rfl, rfl⟩ := hr
         refine ⟨_, ?_, hsame.set s _⟩
         rw [hes, hpk]
         simp only [if_pos hc, h2, Option.map_some]
       · simp at hr
     · simp at hr
   · simp at hr
 | makeRow n z by_ l c =>
   simp only [prim] at hr ⊢
   split at hr
   · split at hr
     · rename_i hc
       rw [if_pos hc]
       simp only [Option.some.injEq, Prod.mk.injEq] at hr
       obtain ⟨rfl, rfl⟩ := hr
       exact ⟨_, rfl, hs⟩
     · rename_i hc
       rw [if_neg hc]
       split at hr
       · rename_i hc
         rw [if_pos hc]
         simp only [Option.some.injEq, Prod.mk.injEq] at hr
         obtain ⟨rfl, rfl⟩ := hr
         exact ⟨_, rfl, hs.set _ _⟩
       · simp at hr
   · simp at hr
 | makeSlice n z by_ l c =>
   simp only [prim] at hr ⊢
   split at hr
   · split at hr
     · rename_i hc
       rw [if_pos hc]
       simp only [Option.some.injEq, Prod.mk.injEq] at hr
       obtain ⟨rfl, rfl⟩ := hr
       exact ⟨_, rfl, hs.set _ _⟩
     · simp at hr
   · simp at hr
 | slice e x lo hi mx =>
   simp only [prim] at hr ⊢
   have hids : ∀ s ∈ (x.ev ts).ids, s ∈ S := fun s hm => hf s (by simp only [footP, foot, List.mem_append]; exact .inl hm)
   rw [sliceVal_same (h := h) (k := k) (v := x.ev ts) (fun s hm => hs s (hids s hm))] at hr
   simp only [Option.map_eq_some_iff, Prod.mk.injEq] at hr ⊢
   obtain ⟨cs, h2, rfl, rfl⟩ := hr
   exact ⟨k, ⟨cs, h2, rfl, rfl⟩, hs⟩
 | fieldAddr x o =>
   simp only [prim] at hr ⊢
   split at hr
   · simp only [Option.some.injEq, Prod.mk.injEq] at hr
     obtain ⟨rfl, rfl⟩ := hr
     exact ⟨k, rfl, hs⟩
   · simp only [Option.some.injEq, Prod.mk.injEq] at hr
     obtain ⟨rfl, rfl⟩ := hr
     exact ⟨k, rfl, hs⟩
   · simp at hr
 | field x o sz =>
   simp only [prim] at hr ⊢
   split at hr
   · simp only [Option.map_eq_some_iff, Prod.mk.injEq] at hr ⊢
     obtain ⟨cs, h2, rfl, rfl⟩ := hr
     exact ⟨k, ⟨cs, h2, rfl, rfl⟩, hs⟩
   · simp at hr
 | indexAddr arr esz x ix =>
   simp only [prim] at hr ⊢
   have hids : ∀ s ∈ (x.ev ts).ids, s ∈ S := fun s hm => hf s (by simp only [footP, foot, List.mem_append]; exact .inl hm)
   split at hr
   · split at hr
     · rename_i h0
       rw [if_pos h0]
       split at hr
       · split at hr
         · split at hr
           · rename_i hc
             rw [if_pos hc]
             simp only [Option.some.injEq, Prod.mk.injEq] at hr
             obtain ⟨rfl, rfl⟩ := hr
             exact ⟨k, rfl, hs⟩
           · simp at hr
         · simp at hr
       · rename_i s g off len heq
         have hb : blkAt h s g = blkAt k s g := blkAt_same (hs s (hids s (by simp [heq, AV.ids])))
         rw [hb] at hr
         split at hr
         · split at hr
           · split at hr
             · rename_i hc
               rw [if_pos hc]
               simp only [Option.some.injEq, Prod.mk.injEq] at hr
               obtain ⟨rfl, rfl⟩ := hr
               exact ⟨k, rfl, hs⟩
             · simp at hr
           · simp at hr
         · simp at hr
       · split at hr
         · rename_i hc
           rw [if_pos hc]
           simp only [Option.some.injEq, Prod.mk.injEq] at hr
           obtain ⟨rfl, rfl⟩ := hr
           exact ⟨k, rfl, hs⟩
         · simp at hr
       · split at hr
         · rename_i hc
           rw [if_pos hc]
           simp only [Option.some.injEq, Prod.mk.injEq] at hr
           obtain ⟨rfl, rfl⟩ := hr
           exact ⟨k, rfl, hs⟩
         · simp at hr
       · simp at hr
     · simp at hr
   · simp at hr
 | index arr x ix =>
   simp only [prim] at hr ⊢
   split at hr
   · split at hr
     · rename_i h0
       rw [if_pos h0]
       split at hr
       · simp only [Option.map_eq_some_iff, Prod.mk.injEq] at hr ⊢
         obtain ⟨cs, h2, rfl, rfl⟩ := hr
         exact ⟨k, ⟨cs, h2, rfl, rfl⟩, hs⟩
       · split at hr
         · rename_i hc
           rw [if_pos hc]
           simp only [Option.map_eq_some_iff, Prod.mk.injEq] at hr ⊢
           obtain ⟨cs, h2, rfl, rfl⟩ := hr
           exact ⟨k, ⟨cs, h2, rfl, rfl⟩, hs⟩
         · simp at hr
       · simp at hr
     · simp at hr
   · simp at hr
 | makeFunc f cap =>
   simp only [prim, Option.some.injEq, Prod.mk.injEq] at hr ⊢
   obtain ⟨rfl, rfl⟩ := hr
   exact ⟨k, ⟨rfl, rfl⟩, hs⟩
 | extract x i =>
   simp only [prim] at hr ⊢
   split at hr
   · simp only [Option.map_eq_some_iff, Prod.mk.injEq] at hr ⊢
     obtain ⟨cs, h2, rfl, rfl⟩ := hr
     exact ⟨k, ⟨cs, h2, rfl, rfl⟩, hs⟩
   · simp at hr
 | len t x =>
   simp only [prim] at hr ⊢
   have hids : ∀ s ∈ (x.ev ts).ids, s ∈ S := fun s hm => hf s (by simp only [footP, foot, List.mem_append]; exact .inl hm)
   rw [lenVal_same (h := h) (k := k) (v := x.ev ts) (fun s hm => hs s (hids s hm))] at hr
   simp only [Option.map_eq_some_iff, Prod.mk.injEq] at hr ⊢
   obtain ⟨cs, h2, rfl, rfl⟩ := hr
   exact ⟨k, ⟨cs, h2, rfl, rfl⟩, hs⟩
 | minmax m x y =>
   simp only [prim] at hr ⊢
   split at hr
   · simp only [Option.some.injEq, Prod.mk.injEq] at hr
     obtain ⟨rfl, rfl⟩ := hr
     exact ⟨k, rfl, hs⟩
   · simp at hr
 | append n esz by_ mu x y =>
   simp only [prim] at hr ⊢
   refine append_same hs (fun s hm => hf s ?_) (fun s hm => hf s ?_) hr
   · simp only [footP, foot, List.mem_append, List.mem_cons]
     exact .inr (.inr hm)
   · simp only [footP, foot, List.mem_append]
     exact .inl hm
 | backward f x =>
   simp only [prim] at hr ⊢
   split at hr
   · rename_i hc
     rw [if_pos hc]
     simp only [Option.some.injEq, Prod.mk.injEq] at hr ⊢
     obtain ⟨rfl, rfl⟩ := hr
     exact ⟨k, ⟨rfl, rfl⟩, hs⟩
   · simp at hr
 | call f xs => simp [prim] at hr
 | callv x xs => simp [prim] at hr
 | bad => simp [prim] at hr
theorem set_out {h : List AObj} {i s : Nat} {o : AObj} (hn : s ≠ i) : (h.set i o)[s]? = h[s]? := List.getElem?_set_ne (Ne.symm hn)
theorem append_out {h h1 : List AObj} {slot gen esz by_ : Nat} {mu : Bool} {x y v : AV} (ha : appendVal h slot gen esz by_ mu x y = some (v, h1)) (s : Nat) (hn : s ∉ slot :: x.ids) : h1[s]? = h[s]? := by
 simp only [List.mem_cons, not_or] at hn
 obtain ⟨hn1, hn2⟩ := hn
 unfold appendVal at ha
 split at ha
 · simp at ha
 · split at ha
   · simp at ha
   · split at ha
     · split at ha
       · simp at ha
       · split at ha
         · split at ha
           all_goals first
             | (simp at ha; done)
             | (simp only [Option.some.injEq, Prod.mk.injEq] at ha; obtain ⟨_, rfl⟩ := ha; exact set_out hn1)
         · split at ha
           · simp only [Option.some.injEq, Prod.mk.injEq] at ha; obtain ⟨_, rfl⟩ := ha; exact set_out hn1
           · simp only [Option.some.injEq, Prod.mk.injEq] at ha; obtain ⟨_, rfl⟩ := ha; exact set_out hn1
           · rename_i q g
             split at ha
             · split at ha
               · simp only [Option.some.injEq, Prod.mk.injEq] at ha
                 obtain ⟨_, rfl⟩ := ha
                 rw [set_out hn1, set_out (fun e => hn2 (by subst e; simp [AV.ids]))]
               · simp at ha
             · simp at ha
           · simp at ha
     · rename_i q g off len
       have hq : s ≠ q := fun e => hn2 (by subst e; simp [AV.ids])
       repeat' split at ha
       all_goals first
         | (simp at ha; done)
         | (simp only [Option.some.injEq, Prod.mk.injEq] at ha; obtain ⟨_, rfl⟩ := ha; first | rfl | (rw [set_out hn1, set_out hq]; done) | (rw [set_out hq]; done) | (rw [set_out hn1]; done))
     · simp at ha
theorem prim_out {h h1 : List AObj} {base gen : Nat} {ts : Tmps} {a : AOp} {v : AV} (hr : prim h base gen ts a = some (v, h1)) (s : Nat) (hn : s ∉ (footP base ts a).2) : h1[s]? = h[s]? := by
 cases a with
 | append k esz by_ mu x y => exact append_out hr s (by simpa only [footP, foot] using hn)
 | alloc n z =>
   simp only [prim] at hr
   split at hr
   · simp at hr
   · simp only [Option.some.injEq, Prod.mk.injEq] at hr
     obtain ⟨_, rfl⟩ := hr
     exact set_out (by simpa [footP, foot] using hn)
 | box n z =>
   simp only [prim] at hr
   split at hr
   · simp at hr
   · simp only [Option.some.injEq, Prod.mk.injEq] at hr
     obtain ⟨_, rfl⟩ := hr
     exact set_out (by simpa [footP, foot] using hn)
 | makeMap n =>
   simp only [prim, Option.some.injEq, Prod.mk.injEq] at hr
   obtain ⟨_, rfl⟩ := hr
   exact set_out (by simpa [footP, foot] using hn)
 | makeSlice n z by_ l c =>
   simp only [prim] at hr
   repeat' split at hr
   all_goals first
     | (simp at hr; done)
     | (simp only [Option.some.injEq, Prod.mk.injEq] at hr; obtain ⟨_, rfl⟩ := hr; exact set_out (by simpa [footP, foot] using hn))
 | makeRow n z by_ l c =>
   simp only [prim] at hr
   repeat' split at hr
   all_goals first
     | (simp at hr; done)
     | (simp only [Option.some.injEq, Prod.mk.injEq] at hr; obtain ⟨_, rfl⟩ := hr; first | rfl | exact set_out (by simpa [footP, foot] using hn))
 | buildSlice n mu z m ps =>
   simp only [footP, foot, List.mem_append, not_or] at hn
   simp only [prim] at hr
   split at hr
   · simp at hr
   · split at hr
     · simp only [Option.map_eq_some_iff] at hr
       obtain ⟨es, _, h3⟩ := hr
       cases mu with
       | true =>
         simp only [if_true, Prod.mk.injEq] at h3
         obtain ⟨_, rfl⟩ := h3
         rw [set_out (by simpa using hn.1), freezeAll_out _ _ hn.2]
       | false =>
         simp only [Bool.false_eq_true, if_false, Prod.mk.injEq] at h3
         obtain ⟨_, rfl⟩ := h3
         exact freezeAll_out _ _ hn.2
     · simp at hr
 | store sz x y =>
   simp only [footP, foot, List.mem_append, not_or] at hn
   simp only [prim] at hr
   split at hr
   · rename_i q g i o heq
     have hq : s ≠ q := fun e => hn.1 (by subst e; simp [heq, AV.ids])
     split at hr
     · rename_i es row grow fz hbk
       split at hr
       · rename_i e v1 h1' he hpub
         have hp : h1'[s]? = h[s]? := by
           cases row with
           | true =>
             simp only [if_true] at hpub
             exact pub_out hpub s hn.2
           | false =>
             simp only [Bool.false_eq_true, if_false, Option.some.injEq, Prod.mk.injEq] at hpub
             obtain ⟨_, rfl⟩ := hpub
             rfl
         split at hr
         · simp only [Option.map_eq_some_iff, Prod.mk.injEq] at hr
           obtain ⟨cs, _, _, rfl⟩ := hr
           rw [set_out hq, hp]
         · simp at hr
       · simp at hr
     · simp at hr
   · simp at hr
 | mapUpdate t m kk x =>
   simp only [footP, foot, List.mem_append, not_or] at hn
   simp only [prim] at hr
   split at hr
   · rename_i q g heq
     have hq : s ≠ q := fun e => hn.1 (by subst e; simp [heq, AV.ids])
     split at hr
     · rename_i es v1 h1' hes hpub
       split at hr
       · simp only [Option.map_eq_some_iff, Prod.mk.injEq] at hr
         obtain ⟨cs, _, _, rfl⟩ := hr
         rw [set_out hq, pub_out hpub s hn.2]
       · simp at hr
     · simp at hr
   · simp at hr
 | _ =>
   simp only [prim] at hr
   repeat' split at hr
   all_goals first
     | (simp at hr; done)
     | (simp only [Option.some.injEq, Prod.mk.injEq] at hr; obtain ⟨_, rfl⟩ := hr; rfl)
     | (simp only [Option.map_eq_some_iff, Prod.mk.injEq] at hr; obtain ⟨_, _, _, rfl⟩ := hr; rfl)
     | (simp only [Option.bind_eq_some_iff, Option.map_eq_some_iff, Prod.mk.injEq] at hr; obtain ⟨_, _, _, _, _, rfl⟩ := hr; rfl)
mutual
theorem beq_sound : ∀ {a b : AV}, a.beq b = true → a = b
 | .undef, b, h => by cases b <;> simp [AV.beq] at h ⊢
 | .int .., b, h => by cases b <;> simp [AV.beq] at h ⊢; exact h
 | .bool _, b, h => by cases b <;> simp [AV.beq] at h ⊢; exact h
 | .str _, b, h => by cases b <;> simp [AV.beq] at h ⊢; exact h
 | .agg _, b, h => by cases b <;> simp [AV.beq] at h ⊢; exact beqL_sound h
 | .tup _, b, h => by cases b <;> simp [AV.beq] at h ⊢; exact beqL_sound h
 | .sl _ _, b, h => by cases b <;> simp [AV.beq] at h ⊢; exact ⟨beqL_sound h.1, h.2⟩
 | .ob .., b, h => by cases b <;> simp [AV.beq] at h ⊢; simp [h]
 | .ptr .., b, h => by cases b <;> simp [AV.beq] at h ⊢; simp [h]
 | .iptr _ _, b, h => by cases b <;> simp [AV.beq] at h ⊢; exact ⟨beqL_sound h.1, h.2⟩
 | .nilptr, b, h => by cases b <;> simp [AV.beq] at h ⊢
 | .mp .., b, h => by cases b <;> simp [AV.beq] at h ⊢; simp [h]
 | .nilmap, b, h => by cases b <;> simp [AV.beq] at h ⊢
 | .fn _ _, b, h => by cases b <;> simp [AV.beq] at h ⊢; exact ⟨h.1, beqL_sound h.2⟩
 | .nilfn, b, h => by cases b <;> simp [AV.beq] at h ⊢
 | .nilif, b, h => by cases b <;> simp [AV.beq] at h ⊢
 | .bwd _ _, b, h => by cases b <;> simp [AV.beq] at h ⊢; exact ⟨h.1, beq_sound h.2⟩
theorem beqL_sound : ∀ {a b : List AV}, beqL a b = true → a = b
 | [], b, h => by cases b <;> simp [beqL] at h ⊢
 | x :: xs, b, h => by cases b <;> simp [beqL] at h ⊢; exact ⟨beq_sound h.1, beqL_sound h.2⟩
end
theorem beqP_sound : ∀ {a b : List (AV × AV)}, beqP a b = true → a = b
 | [], b, h => by cases b <;> simp [beqP] at h ⊢
 | x :: xs, b, h => by
   cases b with
   | nil => simp [beqP] at h
   | cons y ys =>
     simp only [beqP, Bool.and_eq_true] at h
     rw [beqP_sound h.2, Prod.ext (beq_sound h.1.1) (beq_sound h.1.2)]
theorem AObj.beq_sound {a b : AObj} (h : a.beq b = true) : a = b := by
 cases a <;> cases b <;> simp [AObj.beq] at h ⊢
 · obtain ⟨⟨⟨⟨h1, h2⟩, h3⟩, h4⟩, h5⟩ := h
   exact ⟨h1, beqL_sound h2, h3, h4, h5⟩
 · exact h
 · exact ⟨h.1, beqP_sound h.2⟩
theorem reach_mem {h : List AObj} : ∀ (n : Nat) (seen todo : List Nat) (s : Nat), s ∈ seen → s ∈ reach h n seen todo
 | 0, seen, todo, s, hs => by simp [reach, hs]
 | n + 1, seen, [], s, hs => by simpa [reach] using hs
 | n + 1, seen, t :: todo, s, hs => by
   simp only [reach]
   split
   · exact reach_mem n seen todo s hs
   · exact reach_mem n _ _ s (List.mem_cons_of_mem _ hs)
theorem reach_same {h k : List AObj} : ∀ (n : Nat) (seen todo : List Nat), Same (reach h n seen todo) h k → reach k n seen todo = reach h n seen todo
 | 0, seen, todo, _ => rfl
 | n + 1, seen, [], _ => rfl
 | n + 1, seen, t :: todo, hs => by
   simp only [reach] at hs ⊢
   split
   · rename_i hc
     rw [if_pos hc] at hs
     exact reach_same n seen todo hs
   · rename_i hc
     rw [if_neg hc] at hs
     have ht : h[t]? = k[t]? := hs t (reach_mem n _ _ t (List.mem_cons_self))
     rw [← ht]
     exact reach_same n _ _ hs
theorem passArgs_same {h k : List AObj} {byref : List Nat} : ∀ {args : List AV} {i : Nat}, Same ((obsL args).map (·.1)) h k → passArgs h byref i args = passArgs k byref i args
 | [], _, _ => rfl
 | v :: vs, i, hs => by
   simp only [passArgs]
   rw [conv_same (v := v) (fun s hm => hs s (by simp only [obsL, List.map_append, List.mem_append]; exact .inl hm)), passArgs_same (args := vs) (fun s hm => hs s (by simp only [obsL, List.map_append, List.mem_append]; exact .inr hm))]
theorem merge_get {T : List Nat} : ∀ {h h' : List AObj} {k i : Nat}, (mergeFrom T k h h')[i]? = match h[i]? with
   | none => none
   | some o => match h'[i]? with
     | none => some o
     | some o' => some (if T.contains (k + i) then o' else o)
 | [], h', k, i => by cases h' <;> simp [mergeFrom]
 | o :: h, [], k, i => by
   simp only [mergeFrom, List.getElem?_nil]
   cases (o :: h)[i]? <;> rfl
 | o :: h, o' :: h', k, i => by
   cases i with
   | zero => simp [mergeFrom]
   | succ i =>
     simp only [mergeFrom, List.getElem?_cons_succ, merge_get]
     rw [show k + 1 + i = k + (i + 1) by omega]
theorem merge_length {T : List Nat} : ∀ {h h' : List AObj} {k : Nat}, (mergeFrom T k h h').length = h.length
 | [], h', _ => by cases h' <;> rfl
 | o :: h, [], _ => rfl
 | o :: h, o' :: h', k => by simp [mergeFrom, merge_length (h := h) (h' := h')]
theorem mask_same {T : List Nat} {h k : List AObj} (hl : k.length = h.length) (hs : Same T h k) : maskFrom T 0 h = maskFrom T 0 k := by
 apply List.ext_getElem?
 intro i
 rw [maskFrom_get, maskFrom_get, Nat.zero_add]
 by_cases ht : T.contains i = true
 · rw [hs i (by simpa using ht)]
 · have ht : T.contains i = false := by simpa using ht
   simp only [ht, Bool.false_eq_true, if_false]
   by_cases hi : i < h.length
   · rw [List.getElem?_eq_getElem hi, List.getElem?_eq_getElem (show i < k.length by omega)]
     rfl
   · rw [List.getElem?_eq_none (by omega), List.getElem?_eq_none (show k.length ≤ i by omega)]
theorem merge_sameK {S T : List Nat} {h k hr : List AObj} (hs : Same S h k) : Same S (mergeFrom T 0 h hr) (mergeFrom T 0 k hr) := fun s hm => by
 rw [merge_get, merge_get, hs s hm]
structure Alike (n : Nat) (h k h1 k1 : List AObj) : Prop where
 len : k1.length = h1.length
 new : ∀ s, n ≤ s → k1[s]? = h1[s]?
 old : ∀ s, s < n → h[s]? = k[s]? → h1[s]? = k1[s]?
theorem Alike.merge {T : List Nat} {h k h0 k0 hr : List AObj} (hl : k.length = h.length) (hl1 : k0.length = h.length) (hl2 : h0.length = h.length) (hp : ∀ (s : Nat), h[s]? = k[s]? → h0[s]? = k0[s]?) : Alike h.length h k (mergeFrom T 0 h0 hr) (mergeFrom T 0 k0 hr) ∧ Alike h.length h k (mergeFrom T 0 h0 hr ++ hr.drop h.length) (mergeFrom T 0 k0 hr ++ hr.drop k.length) := by
 have hget : ∀ s, h[s]? = k[s]? → (mergeFrom T 0 h0 hr)[s]? = (mergeFrom T 0 k0 hr)[s]? := fun s he => by
   rw [merge_get, merge_get, hp s he]
 refine ⟨⟨by rw [merge_length, merge_length]; omega, fun s hs => ?_, fun s _ he => hget s he⟩, ⟨by simp [merge_length]; omega, fun s hs => ?_, fun s hs he => ?_⟩⟩
 · rw [List.getElem?_eq_none (by rw [merge_length]; omega), List.getElem?_eq_none (by rw [merge_length]; omega)]
 · rw [List.getElem?_append_right (by rw [merge_length]; omega), List.getElem?_append_right (by rw [merge_length]; omega), merge_length, merge_length, hl, hl1, hl2]
 · rw [List.getElem?_append_left (by rw [merge_length]; omega), List.getElem?_append_left (by rw [merge_length]; omega)]
   exact hget s he
theorem call_same {R : Nat → ACode → St → Option (AEx × St)} {Γ : AProg} {f : Nat} {args : List AV} {h k h1 : List AObj} {clk c : Nat} {v : AV} (hl : k.length = h.length) (hs : Same (callFoot Γ f args h) h k)
   (hr : callWith R Γ f args h clk = some (v, h1, c)) : ∃ k1, callWith R Γ f args k clk = some (v, k1, c) ∧ Alike h.length h k h1 k1 := by
 have hobs : Same ((obsL args).map (·.1)) h k := fun s hm => hs s (by simp only [callFoot, List.mem_append]; exact .inl hm)
 unfold callWith at hr ⊢
 cases hext : Γ.ext f with
 | some sem =>
   simp only [hext] at hr ⊢
   rw [← passArgs_same hobs]
   split at hr
   · rename_i asx hpass
     split at hr
     · rename_i hlent
       rw [if_pos hlent]
       simp only [Option.map_eq_some_iff, Prod.mk.injEq] at hr ⊢
       obtain ⟨v0, h2, rfl, rfl, rfl⟩ := hr
       exact ⟨k, ⟨v0, h2, rfl, rfl, rfl⟩, ⟨hl, fun s hge => by rw [List.getElem?_eq_none (by omega), List.getElem?_eq_none (by omega)], fun s _ he => he⟩⟩
     · simp at hr
   · simp at hr
 | none =>
   simp only [hext] at hr ⊢
   cases hfn : Γ.fn f with
   | none => simp [hfn] at hr
   | some af =>
     simp only [hfn] at hr ⊢
     rw [← passArgs_same hobs]
     cases hpass : passArgs h af.byref 0 args with
     | none => simp [hpass] at hr
     | some asx =>
       simp only [hpass] at hr ⊢
       have hT : Same (reach h (h.length + 1) [] (idsL asx)) h k := fun s hm => hs s (by simp only [callFoot, hext, hfn, hpass, List.mem_append]; exact .inr hm)
       have hreach : reach k (k.length + 1) [] (idsL asx) = reach h (h.length + 1) [] (idsL asx) := by rw [hl]; exact reach_same _ _ _ hT
       have hfs := hT.freezeAll (lentSlots af.byref 0 args)
       have hmask := mask_same (by rw [freezeAll_length, freezeAll_length]; exact hl) hfs
       rw [hreach, ← hmask, hl]
       have hfl := freezeAll_length (lentSlots af.byref 0 args) h
       have hfk := freezeAll_length (lentSlots af.byref 0 args) k
       have hpt : ∀ (s : Nat), h[s]? = k[s]? → (freezeAll h (lentSlots af.byref 0 args))[s]? = (freezeAll k (lentSlots af.byref 0 args))[s]? := fun s he =>
         (Same.freezeAll (S := [s]) (fun q hq => by simp at hq; subst hq; exact he) _) s (by simp)
       generalize freezeAll h (lentSlots af.byref 0 args) = hf at *
       generalize freezeAll k (lentSlots af.byref 0 args) = kf at *
       generalize reach h (h.length + 1) [] (idsL asx) = T at *
       split at hr
       · simp at hr
       · simp at hr
       · rename_i e s hno hx
         split at hr
         · simp at hr
         · rename_i vs hvs
           split at hr
           · simp at hr
           · rename_i v0 hconv
             generalize (if af.owned = true then s.h else freezeAll s.h (oneOf vs).obs) = hrr at *
             have key : ∀ h0 k0 : List AObj, k0.length = h.length → h0.length = h.length → (∀ (s : Nat), h[s]? = k[s]? → h0[s]? = k0[s]?) →
                 (if ((v0.ids ++ (T.map fun i => ((hrr[i]?).map AObj.ids).getD []).flatten).all (· < h.length)) = true then some (v0, mergeFrom T 0 h0 hrr, clk) else some (v0, mergeFrom T 0 h0 hrr ++ hrr.drop h.length, s.clk)) = some (v, h1, c) →
                 ∃ k1, (if ((v0.ids ++ (T.map fun i => ((hrr[i]?).map AObj.ids).getD []).flatten).all (· < h.length)) = true then some (v0, mergeFrom T 0 k0 hrr, clk) else some (v0, mergeFrom T 0 k0 hrr ++ hrr.drop h.length, s.clk)) = some (v, k1, c) ∧ Alike h.length h k h1 k1 := by
               intro h0 k0 g1 g2 g3 hq
               obtain ⟨a1, a2⟩ := Alike.merge (T := T) (hr := hrr) hl g1 g2 g3
               split at hq
               · rename_i hc
                 rw [if_pos hc]
                 simp only [Option.some.injEq, Prod.mk.injEq] at hq
                 obtain ⟨rfl, rfl, rfl⟩ := hq
                 exact ⟨_, rfl, a1⟩
               · rename_i hc
                 rw [if_neg hc]
                 simp only [Option.some.injEq, Prod.mk.injEq] at hq
                 obtain ⟨rfl, rfl, rfl⟩ := hq
                 rw [hl] at a2
                 exact ⟨_, rfl, a2⟩
             by_cases hflat : (v0.flat && T.isEmpty) = true
             · simp only [if_pos hflat] at hr ⊢
               exact key h k hl rfl (fun _ he => he) hr
             · simp only [if_neg hflat] at hr ⊢
               exact key hf kf (by rw [hfk, hl]) hfl hpt hr
theorem lentSlots_obs {byref : List Nat} : ∀ {args : List AV} {i : Nat} {x : Nat × Nat}, x ∈ lentSlots byref i args → x ∈ obsL args
 | [], _, _, h => by simp [lentSlots] at h
 | v :: vs, i, x, h => by
   simp only [lentSlots, List.mem_append] at h
   simp only [obsL, List.mem_append]
   rcases h with h | h
   · split at h
     · simp at h
     · exact .inl h
   · exact .inr (lentSlots_obs h)
theorem callFoot_same {Γ : AProg} {f : Nat} {args : List AV} {h k : List AObj} (hl : k.length = h.length) (hs : Same (callFoot Γ f args h) h k) : callFoot Γ f args k = callFoot Γ f args h := by
 have hobs : Same ((obsL args).map (·.1)) h k := fun s hm => hs s (by simp only [callFoot, List.mem_append]; exact .inl hm)
 unfold callFoot at hs ⊢
 cases hext : Γ.ext f with
 | some sem => rfl
 | none =>
   simp only [hext] at hs ⊢
   cases hfn : Γ.fn f with
   | none => rfl
   | some af =>
     simp only [hfn] at hs ⊢
     rw [← passArgs_same hobs]
     cases hpass : passArgs h af.byref 0 args with
     | none => rfl
     | some asx =>
       simp only [hpass] at hs ⊢
       rw [hl, reach_same _ _ _ fun s hm => hs s (List.mem_append_right _ hm)]
theorem call_out {R : Nat → ACode → St → Option (AEx × St)} {Γ : AProg} {f : Nat} {args : List AV} {h h1 : List AObj} {clk c : Nat} {v : AV}
   (hr : callWith R Γ f args h clk = some (v, h1, c)) : h.length ≤ h1.length ∧ ∀ s, s < h.length → s ∉ callFoot Γ f args h → h1[s]? = h[s]? := by
 unfold callWith at hr
 unfold callFoot
 cases hext : Γ.ext f with
 | some sem =>
   simp only [hext] at hr
   split at hr
   · split at hr
     · simp only [Option.map_eq_some_iff, Prod.mk.injEq] at hr
       obtain ⟨v0, h2, rfl, rfl, rfl⟩ := hr
       exact ⟨Nat.le_refl _, fun _ _ _ => rfl⟩
     · simp at hr
   · simp at hr
 | none =>
   simp only [hext] at hr ⊢
   cases hfn : Γ.fn f with
   | none => simp [hfn] at hr
   | some af =>
     simp only [hfn] at hr ⊢
     cases hpass : passArgs h af.byref 0 args with
     | none => simp [hpass] at hr
     | some asx =>
       simp only [hpass] at hr ⊢
       have hfl := freezeAll_length (lentSlots af.byref 0 args) h
       have hfo : ∀ s, s ∉ (obsL args).map (·.1) → (freezeAll h (lentSlots af.byref 0 args))[s]? = h[s]? := fun s hn =>
         freezeAll_out _ _ fun hm => hn (by
           obtain ⟨x, hx, rfl⟩ := List.mem_map.1 hm
           exact List.mem_map.2 ⟨x, lentSlots_obs hx, rfl⟩)
       generalize freezeAll h (lentSlots af.byref 0 args) = hf at *
       generalize reach h (h.length + 1) [] (idsL asx) = T at *
       split at hr
       · simp at hr
       · simp at hr
       · rename_i e s hno hx
         split at hr
         · simp at hr
         · rename_i vs hvs
           split at hr
           · simp at hr
           · rename_i v0 hconv
             generalize (if af.owned = true then s.h else freezeAll s.h (oneOf vs).obs) = hrr at *
             have hpre : ∃ h0 : List AObj, (if (v0.flat && T.isEmpty) = true then h else hf) = h0 ∧ h0.length = h.length ∧ ∀ s, s ∉ (obsL args).map (·.1) → h0[s]? = h[s]? := by
               refine ⟨_, rfl, ?_, ?_⟩
               · split
                 · rfl
                 · exact hfl
               · intro s hn
                 split
                 · rfl
                 · exact hfo s hn
             obtain ⟨h0, he, h0l, h0o⟩ := hpre
             rw [he] at hr
             have key : ∀ s, s < h.length → s ∉ (obsL args).map (·.1) ++ T → (mergeFrom T 0 h0 hrr)[s]? = h[s]? := fun s hs hn => by
               simp only [List.mem_append, not_or] at hn
               rw [merge_get, h0o s hn.1, List.getElem?_eq_getElem hs]
               simp only
               split
               · rfl
               · rw [if_neg (by simpa using hn.2)]
             split at hr
             · simp only [Option.some.injEq, Prod.mk.injEq] at hr
               obtain ⟨rfl, rfl, rfl⟩ := hr
               exact ⟨by rw [merge_length, h0l]; exact Nat.le_refl _, key⟩
             · simp only [Option.some.injEq, Prod.mk.injEq] at hr
               obtain ⟨rfl, rfl, rfl⟩ := hr
               refine ⟨by rw [List.length_append, merge_length, h0l]; omega, fun s hs hn => ?_⟩
               rw [List.getElem?_append_left (by rw [merge_length, h0l]; exact hs)]
               exact key s hs hn
theorem touched_out {F : List Nat} {h h1 : List AObj} {s : Nat} (hs : s < h.length) (hl : h.length ≤ h1.length) (ho : s ∉ F → h1[s]? = h[s]?) (hn : s ∉ (touched F h h1).2) : h1[s]? = h[s]? := by
 by_cases hF : s ∈ F
 · simp only [touched, List.mem_filter, hF, true_and, Bool.not_eq_eq_eq_not, Bool.not_true, Bool.not_eq_false] at hn
   have := AObj.beq_sound hn
   simp only [List.getD, List.getElem?_eq_getElem hs, List.getElem?_eq_getElem (show s < h1.length by omega), Option.getD_some] at this
   rw [List.getElem?_eq_getElem hs, List.getElem?_eq_getElem (show s < h1.length by omega), this]
 · exact ho hF
theorem touched_same {F : List Nat} {h h1 k k1 : List AObj} (h0 : ∀ s ∈ F, k[s]? = h[s]?) (h2 : ∀ s ∈ F, k1[s]? = h1[s]?) : touched F k k1 = touched F h h1 := by
 unfold touched
 congr 1
 apply List.filter_congr
 intro s hs
 simp only [List.getD, h0 s hs, h2 s hs]
end Go.Proofs.YtbeooboebfbchaaGreatDoor.Am
