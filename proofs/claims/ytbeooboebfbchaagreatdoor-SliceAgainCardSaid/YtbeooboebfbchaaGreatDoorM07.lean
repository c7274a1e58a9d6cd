/- One operation of the abstract machine stands for one operation of the model: append, its cases. One operation of the abstract machine stands for one operation of the model: append, joined. -/
import Derived.IntWalk
import Derived.Test.YtbeooboebfbchaaGreatDoorM06
set_option linter.unusedVariables false
set_option linter.unusedSimpArgs false
namespace Go.Proofs.YtbeooboebfbchaaGreatDoor.Am
open Go
set_option maxRecDepth 100000
section
variable {P : Program} {G : Ghost} {I : Imm} {h : List AObj} {w : World} {gen slot : Nat}
structure AppK (P : Program) (t tx e : TypeId) (sz by_ : Nat) (z : AV) : Prop where
 ht : P.underlying t = some (.slice e)
 hk : (∃ e', P.underlying tx = some (.slice e')) ∨ P.underlying tx = some .string
 hs : sizeP P e = some sz
 hb : bytesP P e = some by_
 hz : zeroP P e = some z
 hzl : z.cells.length = sz
 h0 : 0 < sz
theorem killed_rel {s : Nat} (rel : Rel G I h w) : Rel G I (h.set s .dead) w := rel.kill s
theorem killed_sub {s : Nat} (i : Nat) (o : AObj) (b : Nat) (hi : (h.set s .dead)[i]? = some o) (hb : own G o = some b) : ∃ (j : Nat) (x : AObj), h[j]? = some x ∧ own G x = some b :=
 ⟨i, o, (killed_owns hi hb).2, hb⟩
theorem app_grow_tip {t tx ty e : TypeId} {sz by_ c : Nat} {z : AV} {A : Option Addr} {x : Value} {xs ys : List AV} {olds news : List Value} {h1 : List AObj} {r : Result Next} (ap : AppK P t tx e sz by_ z) (hg : G gen = none) (rel1 : Rel G I h1 w)
   (hown : ∀ (i : Nat) o b, h1[i]? = some o → own G o = some b → ∃ (j : Nat) (x : AObj), h[j]? = some x ∧ own G x = some b)
   (hx : Src P sz t (.slice A xs.length c) xs.length olds w) (hy : Src P sz tx x ys.length news w) (ho : NewsR G I xs olds sz) (hn : NewsR G I ys news sz) (hgr : c < xs.length + ys.length) (hroom : (xs.length + ys.length) * (by_ + 1) ≤ roomBound)
   (hr : r = ((Builtin.append_ #[t, tx] ty #[.slice A xs.length c, x]).bind fun v => Sem.pure (.value v)).run P w) : Step G I h w gen slot r (.sl (xs ++ ys) (.at slot gen)) (h1.set slot (.tip gen sz)) := by
 obtain ⟨cap, ccs, hrun, hcap, hsz, hE⟩ := append_grow (G := G) (I := I) (ty := ty) ap.ht ap.hs ap.hb ap.hz ap.hzl hx hy ho hn hgr hroom
 have hlen : (xs ++ ys).length = xs.length + ys.length := by simp
 have hx1 : r = .ok (.value (.slice (some ⟨w.heap.size, 0, none⟩) (xs.length + ys.length) cap)) (w.drew.alloc (.cells ccs e)) := by
   rw [hr, run_bind', hrun]
   rfl
 have hle : ILe I (immNew I w.heap.size ((xs ++ ys).length * sz) ccs) := immNew_le fun o v hv => absurd hv (noImm_new rel1 o v)
 have hcm : (xs.length + ys.length) * sz ≤ cap * sz := Nat.mul_le_mul_right _ hcap
 refine Step.make (w' := w.drew.alloc (.cells ccs e)) (i := ⟨slot, w.heap.size, sz, 0, (xs.length + ys.length) * sz, cap * sz, true⟩) (I' := immNew I w.heap.size ((xs ++ ys).length * sz) ccs) hg rfl rel1 hown (.inl (Nat.le_refl _)) (fun j o hj ho => ?_) hle
   (fun b x _ hx => heap_alloc_old w.drew _ hx) immNew_other (fun o v hv => ?_) ?_ ?_ rfl rfl rfl (by have := alloc_size w.drew (.cells ccs e); simp at this ⊢) hx1 ?_
 · have := own_lt (rel1.obj j o hj) ho
   simp at this
 · have ha : (w.drew.alloc (.cells ccs e)).heap[w.heap.size]? = some (.cells ccs e) := alloc_at w.drew (.cells ccs e)
   simp only [World.cell?, ha]
   unfold immNew at hv
   split at hv
   · exact hv
   · exact absurd hv (noImm_new rel1 o v)
 · refine ⟨_, Ghost.put_same, rfl, rfl, fun _ => ⟨ccs, e, alloc_at w.drew _, by simp only; omega, fun o v hv => ?_⟩⟩
   unfold immNew at hv
   split at hv
   · rename_i hc
     have := hc.2
     rw [hlen] at this
     exact this
   · exact absurd hv (noImm_new rel1 o v)
 · intro b hb
   simp [own] at hb
   exact hb.symm
 · simp only [VR]
   refine ⟨_, _, _, rfl, hlen, hcap, ⟨_, Ghost.put_same, rfl, ap.h0, fun y hy => ?_, .inr ⟨rfl, 0, rfl, by simp only [hlen, Nat.zero_add], by simp⟩⟩, .inr ⟨w.heap.size, 0, sz, rfl, ap.h0, ?_⟩⟩
   · obtain ⟨k, hk⟩ := List.getElem?_of_mem hy
     exact (hE k y hk).1
   · exact RowI.mono (Ghost.put_le _ hg) (ILe.refl _) (rowI_of hle (fun o ho => immNew_at o ho) hE)
theorem app_grow_ob {t tx ty e : TypeId} {sz by_ c fz : Nat} {z : AV} {A : Option Addr} {x : Value} {xs ys : List AV} {olds news : List Value} {h1 : List AObj} {r : Result Next} (ap : AppK P t tx e sz by_ z) (hg : G gen = none) (rel1 : Rel G I h1 w)
   (hown : ∀ (i : Nat) o b, h1[i]? = some o → own G o = some b → ∃ (j : Nat) (x : AObj), h[j]? = some x ∧ own G x = some b)
   (hx : Src P sz t (.slice A xs.length c) xs.length olds w) (hy : Src P sz tx x ys.length news w) (ho : NewsR G I xs olds sz) (hn : NewsR G I ys news sz) (hgr : c < xs.length + ys.length) (hroom : (xs.length + ys.length) * (by_ + 1) ≤ roomBound)
   (hfz : fz ≤ xs.length) (hr : r = ((Builtin.append_ #[t, tx] ty #[.slice A xs.length c, x]).bind fun v => Sem.pure (.value v)).run P w) :
   Step G I h w gen slot r (.ob slot gen 0 (xs.length + ys.length)) (h1.set slot (.blk gen (xs ++ ys) true true fz)) := by
 obtain ⟨cap, ccs, hrun, hcap, hsz, hE⟩ := append_grow (G := G) (I := I) (ty := ty) ap.ht ap.hs ap.hb ap.hz ap.hzl hx hy ho hn hgr hroom
 have hlen : (xs ++ ys).length = xs.length + ys.length := by simp
 have hx1 : r = .ok (.value (.slice (some ⟨w.heap.size, 0, none⟩) (xs.length + ys.length) cap)) (w.drew.alloc (.cells ccs e)) := by
   rw [hr, run_bind', hrun]
   rfl
 refine Step.make (w' := w.drew.alloc (.cells ccs e)) (i := ⟨slot, w.heap.size, sz, cap, 0, 0, false⟩) (I' := I) hg rfl rel1 hown (.inl (Nat.le_refl _)) (fun j o hj ho => ?_) (ILe.refl _)
   (fun b x _ hx => heap_alloc_old w.drew _ hx) (fun _ _ _ _ hv => hv) (fun o v hv => absurd hv (noImm_new rel1 o v)) ?_ ?_ rfl rfl rfl (by have := alloc_size w.drew (.cells ccs e); simp at this ⊢) hx1 ?_
 · have := own_lt (rel1.obj j o hj) ho
   simp at this
 · exact ⟨_, _, e, Ghost.put_same, rfl, alloc_at w.drew _, hsz, ap.h0, by simp only [hlen]; exact hcap, by simp, ⟨by omega, by simp⟩, hE.mono (Ghost.put_le _ hg) (ILe.refl _), fun o v hv => absurd hv (noImm_new rel1 o v)⟩
 · intro b hb
   simp [own] at hb
   exact hb.symm
 · simp only [VR]
   exact ⟨_, _, _, Ghost.put_same, rfl, rfl, hcap, by simp, .inr (by simp)⟩
theorem run_append_zero (t tx ty e : TypeId) (k : IntKind) (i : TypeInfo) (z : Value) (ht : P.underlying t = some (.slice e)) (hk : P.underlying tx = some (.int k)) (hi : P.info? e = some i) (hz : i.zero = some z) (j : IntKind) (n : Nat) (h0 : 0 < n) (hs0 : 0 < i.size)
   (h63 : (n : Int) ≤ 9223372036854775807) (hfit : n * i.bytes ≤ 281474976710656) :
   (Builtin.append_ #[t, tx] ty #[.slice none 0 0, .int j n]).run P w =
     .ok (.slice (some ⟨w.heap.size, 0, none⟩) n (grownCap w n 0 e)) (w.drew.alloc (.cells (Builtin.zeroCells z.cells n ++ Builtin.zeroCells z.cells (grownCap w n 0 e - n)) e)) := by
 have hw : IntKind.i64.wrap (n : Int) = n := IntWalk.i64_in _ (by omega)
 have hnn : ¬ n = 0 := by omega
 have hmul : n * i.size ≠ 0 := by
   have := Nat.mul_pos h0 hs0
   omega
 have h48 : ¬ ((281474976710656 : Int) < (n : Int) * (i.bytes : Int)) := by
   have : ((n * i.bytes : Nat) : Int) ≤ 281474976710656 := by omega
   rw [Int.natCast_mul] at this
   omega
 have hcap : Builtin.nextslicecap n 0 = n := by simp [Builtin.nextslicecap]; omega
 have hneg : ¬ ((n : Int) < 0) := by omega
 have h63' : ¬ (9223372036854775807 < (n : Int)) := by omega
 have h48' : ¬ (281474976710656 < n * i.bytes) := by omega
 simp [Builtin.append_, run_underlying ht, run_underlying hk, sizeOf, typeInfo, zeroValue, hi, hz, asInt, asIntOf, hw, hneg, h48, hnn, hmul, hcap, h63', h48', Question.forced, newRow, grownCap, Builtin.firstCells]
theorem app_zero_ob {t tx ty e : TypeId} {k : IntKind} {sz by_ n : Nat} {z : AV} {j : IntKind} {r : Result Next} (ht : P.underlying t = some (.slice e)) (hk : P.underlying tx = some (.int k)) (hs : sizeP P e = some sz) (hb : bytesP P e = some by_) (hz : zeroP P e = some z) (hzl : z.cells.length = sz) (hzd : z.def? = true) (h0 : 0 < sz)
   (hg : G gen = none) (rel1 : Rel G I h w) (hn0 : 0 < n) (hroom : n * (by_ + 1) ≤ roomBound) (hr : r = ((Builtin.append_ #[t, tx] ty #[.slice none 0 0, .int j n]).bind fun v => Sem.pure (.value v)).run P w) :
   Step G I h w gen slot r (.ob slot gen 0 n) (h.set slot (.blk gen (List.replicate n z) true true 0)) := by
 obtain ⟨ti, zv, hi, hzv, hvz⟩ := zeroP_ok (G := G) (I := I) hz
 have hsz : ti.size = sz := by simpa [sizeP, hi] using hs
 have hby : ti.bytes = by_ := by simpa [bytesP, hi] using hb
 have hzc : zv.cells.size = sz := by rw [← (ArrR.of_val (zeroP_def hz) hvz).1]; exact hzl
 have hrb : roomBound = 70368744177664 := by decide
 rw [hrb, Nat.mul_add, Nat.mul_one] at hroom
 subst hsz hby
 have hrun := run_append_zero (w := w) t tx ty e k ti zv ht hk hi hzv j n hn0 h0 (by omega) (by omega)
 have hcap := grownCap_ge w n 0 e
 generalize grownCap w n 0 e = cap at hrun hcap
 have hx1 : r = .ok (.value (.slice (some ⟨w.heap.size, 0, none⟩) n cap)) (w.drew.alloc (.cells (Builtin.zeroCells zv.cells n ++ Builtin.zeroCells zv.cells (cap - n)) e)) := by
   rw [hr, run_bind', hrun]
   rfl
 have hE : ElemsR G I (List.replicate n z) (Builtin.zeroCells zv.cells n ++ Builtin.zeroCells zv.cells (cap - n)) ti.size := by
   have hrow := zeros_row (G := G) (I := I) (n := n) (ArrR.of_val hzd hvz)
   rw [hzc] at hrow
   intro k x hx
   obtain ⟨h1, h2⟩ := hrow.2 k x hx
   refine ⟨h1, fun q c hq => ?_⟩
   obtain ⟨u, hu, hur⟩ := h2 q c hq
   refine ⟨u, ?_, hur⟩
   have hlt := (Array.getElem?_eq_some_iff.1 hu).1
   have he : Builtin.zeroCells zv.cells n = (Array.range (n * ti.size)).map fun i => zv.cells[i % ti.size]! := by
     rw [← hzc]; rfl
   rw [Array.getElem?_append_left (by rw [he]; exact hlt), he]
   exact hu
 refine Step.make (w' := w.drew.alloc (.cells (Builtin.zeroCells zv.cells n ++ Builtin.zeroCells zv.cells (cap - n)) e)) (i := ⟨slot, w.heap.size, ti.size, cap, 0, 0, false⟩) (I' := I) hg rfl rel1 (fun i o b hi hb => ⟨i, o, hi, hb⟩) (.inl (Nat.le_refl _)) (fun j o hj ho => ?_) (ILe.refl _)
   (fun b x _ hx => heap_alloc_old w.drew _ hx) (fun _ _ _ _ hv => hv) (fun o v hv => absurd hv (noImm_new rel1 o v)) ?_ ?_ rfl rfl rfl (by have := alloc_size w.drew (.cells (Builtin.zeroCells zv.cells n ++ Builtin.zeroCells zv.cells (cap - n)) e); simp at this ⊢) hx1 ?_
 · have := own_lt (rel1.obj j o hj) ho
   simp at this
 · refine ⟨_, _, e, Ghost.put_same, rfl, alloc_at w.drew _, ?_, h0, by simp only [List.length_replicate]; exact hcap, by simp, ⟨by omega, by simp⟩, hE.mono (Ghost.put_le _ hg) (ILe.refl _), fun o v hv => absurd hv (noImm_new rel1 o v)⟩
   rw [Array.size_append, size_zeroCells, size_zeroCells, hzc, ← Nat.add_mul]
   show (n + (cap - n)) * ti.size = cap * ti.size
   rw [Nat.add_sub_cancel' hcap]
 · intro b hb
   simp [own] at hb
   exact hb.symm
 · simp only [VR]
   exact ⟨_, _, _, Ghost.put_same, rfl, rfl, hcap, by simp, .inr (by simp)⟩
theorem app_none_tip {t tx ty e : TypeId} {sz by_ c : Nat} {z : AV} {A : Option Addr} {x : Value} {xs : List AV} {h1 : List AObj} {r : Result Next} (ap : AppK P t tx e sz by_ z) (hg : G gen = none) (rel1 : Rel G I h1 w)
   (hown : ∀ (i : Nat) o b, h1[i]? = some o → own G o = some b → ∃ (j : Nat) (x : AObj), h[j]? = some x ∧ own G x = some b)
   (hy : Src P sz tx x 0 [] w) (hc : c = xs.length) (hall : allCells sz xs = true) (hrow : xs.length = 0 ∨ ∃ b o e, A = some ⟨b, o, none⟩ ∧ 0 < e ∧ RowI G I xs b o e)
   (hr : r = ((Builtin.append_ #[t, tx] ty #[.slice A xs.length c, x]).bind fun v => Sem.pure (.value v)).run P w) : Step G I h w gen slot r (.sl xs (.at slot gen)) (h1.set slot (.tip gen sz)) := by
 have hx1 : r = .ok (.value (.slice A xs.length c)) w := by
   rw [hr, run_bind', append_none ap.ht ap.hs hy (by omega)]
   rfl
 refine Step.make (i := ⟨slot, w.heap.size, sz, 0, 0, 0, false⟩) (I' := I) hg rfl rel1 hown (.inl (Nat.le_refl _)) (fun j o hj ho => ?_) (ILe.refl _)
   (fun b x _ hx => hx) (fun _ _ _ _ hv => hv) (fun o v hv => absurd hv (noImm_new rel1 o v)) ?_ ?_ rfl rfl rfl (Nat.le_refl _) hx1 ?_
 · have := own_lt (rel1.obj j o hj) ho
   simp at this
 · exact ⟨_, Ghost.put_same, rfl, rfl, fun h => by simp at h⟩
 · intro b hb
   simp [own] at hb
 · simp only [VR]
   refine ⟨A, xs.length, c, rfl, rfl, by omega, ⟨_, Ghost.put_same, rfl, ap.h0, fun y hy => (allCells_iff.1 hall y hy).2.1, .inl hc⟩, ?_⟩
   rcases hrow with h0 | ⟨b, o, e, rfl, h2, h3⟩
   · exact .inl h0
   · exact .inr ⟨b, o, e, rfl, h2, RowI.mono (Ghost.put_le _ hg) (ILe.refl _) h3⟩
theorem app_room_tip {t tx ty e : TypeId} {sz by_ c s g : Nat} {z : AV} {A : Option Addr} {x : Value} {xs ys : List AV} {news : List Value} {i0 : GInfo} {r : Result Next} (ap : AppK P t tx e sz by_ z) (hg : G gen = none) (rel : Rel G I h w)
   (hs : h[s]? = some (.tip g sz)) (hi0 : G g = some i0) (hroomy : i0.room = true) (hA : ∃ o, A = some ⟨i0.blk, o, none⟩ ∧ o + xs.length * i0.esz = i0.endp ∧ o + c * i0.esz = i0.capE)
   (hall : allCells sz xs = true) (hall2 : allCells sz ys = true) (hrow : xs.length = 0 ∨ ∃ b o e, A = some ⟨b, o, none⟩ ∧ 0 < e ∧ RowI G I xs b o e)
   (hy : Src P sz tx x ys.length news w) (hn : NewsR G I ys news sz) (hfit : xs.length + ys.length ≤ c)
   (hr : r = ((Builtin.append_ #[t, tx] ty #[.slice A xs.length c, x]).bind fun v => Sem.pure (.value v)).run P w) : Step G I h w gen slot r (.sl (xs ++ ys) (.at slot gen)) ((h.set s .dead).set slot (.tip gen sz)) := by
 obtain ⟨i0', hi0', hsl, hesz, hob⟩ := rel.obj s _ hs
 obtain rfl : i0 = i0' := by rw [hi0] at hi0'; simpa using hi0'
 obtain ⟨cs, ty', hw, hcap, hI⟩ := hob hroomy
 obtain ⟨o, rfl, hend, hcapE⟩ := hA
 rw [hesz] at hend hcapE
 have hcm : (xs.length + ys.length) * sz ≤ c * sz := Nat.mul_le_mul_right _ hfit
 rw [Nat.add_mul] at hcm
 have hnl := hn.1
 have hrun := append_room (ty := ty) ap.ht ap.hs hy hfit hw (off := o) (by omega)
 have hx1 : r = .ok (.value (.slice (some ⟨i0.blk, o, none⟩) (xs.length + ys.length) c)) (w.setRow i0.blk (cs.toList.take (o + xs.length * sz) ++ news ++ cs.toList.drop (o + xs.length * sz + news.length)).toArray) := by
   rw [hr, run_bind', hrun]
   rfl
 have hget := fun j => splice_arr (cs := cs) (vs := news) (o := o + xs.length * sz) (by omega) j
 generalize hcs' : (cs.toList.take (o + xs.length * sz) ++ news ++ cs.toList.drop (o + xs.length * sz + news.length)).toArray = cs' at hx1 hget
 have hsz' : cs'.size = cs.size := by
   rw [← hcs']
   simp
   omega
 have hown : own G (.tip g sz) = some i0.blk := by simp [own, hi0, hroomy]
 have hw' := setRow_heap w i0.blk cs cs' ty' (0, 0) hw
 have hlen : (xs ++ ys).length = xs.length + ys.length := by simp
 have hle : ILe I (immNew I i0.blk (i0.endp + ys.length * sz) cs') := immNew_le fun q v hv hq => by
   have := hI q v hv
   rw [hget q, if_neg (by omega)]
   have h1 := rel.imm _ q v hv
   simpa [World.cell?, hw] using h1
 refine Step.make (w' := w.setRow i0.blk cs') (i := ⟨slot, i0.blk, sz, 0, i0.endp + ys.length * sz, i0.capE, true⟩) (I' := immNew I i0.blk (i0.endp + ys.length * sz) cs') hg rfl (rel.kill s) killed_sub (.inr ⟨s, _, hs, hown⟩) (fun j o hj ho => ?_) hle
   (fun b x hb hx => by rw [setRow_other w _ _ _ hb]; exact hx) immNew_other (fun q v hv => ?_) ?_ ?_ rfl rfl rfl (by simp) hx1 ?_
 · obtain ⟨h1, h2⟩ := killed_owns hj ho
   exact h1 (rel.inj j s o _ _ h2 hs ho hown)
 · rw [cell_setRow_same w _ q cs cs' ty' _ hw]
   unfold immNew at hv
   split at hv
   · exact hv
   · rename_i hc
     have := hI q v hv
     simp at hc
     omega
 · refine ⟨_, Ghost.put_same, rfl, rfl, fun _ => ⟨cs', ty', hw', by simp only; omega, fun q v hv => ?_⟩⟩
   unfold immNew at hv
   split at hv
   · rename_i hc; exact hc.2
   · have := hI q v hv
     simp only
     omega
 · intro b hb
   simp [own] at hb
   exact hb.symm
 · simp only [VR]
   refine ⟨_, _, _, rfl, hlen, hfit, ⟨_, Ghost.put_same, rfl, ap.h0, fun y hy => ?_, .inr ⟨rfl, o, rfl, ?_, ?_⟩⟩, .inr ⟨i0.blk, o, sz, rfl, ap.h0, RowI.mono (Ghost.put_le _ hg) (ILe.refl _) ?_⟩⟩
   · rcases List.mem_append.1 hy with hy | hy
     · exact (allCells_iff.1 hall y hy).2.1
     · exact (allCells_iff.1 hall2 y hy).2.1
   · simp only [hlen, Nat.add_mul]
     omega
   · simp only
     omega
   · refine RowI_iff.2 fun k y hk => ?_
     rw [List.getElem?_append] at hk
     split at hk
     · rename_i hkl
       rcases hrow with h0 | ⟨b, o', e', hA, hpos, hrow⟩
       · omega
       · simp at hA
         obtain ⟨rfl, rfl⟩ := hA
         obtain ⟨h1, h2⟩ := RowI_iff.1 hrow k y hk
         have h3 := (allCells_iff.1 hall y (List.mem_of_getElem? hk)).2.1
         obtain rfl : e' = sz := by omega
         exact ⟨h1, CellsI.mono (GLe.refl _) hle h2⟩
     · rename_i hkl
       obtain ⟨h1, h2⟩ := hn.2 _ y hk
       refine ⟨h1, CellsI_iff.2 fun j c hj => ?_⟩
       obtain ⟨u, h3, h4⟩ := h2 j c hj
       have hlt := (List.getElem?_eq_some_iff.1 h3).1
       have he : k * sz = xs.length * sz + (k - xs.length) * sz := by rw [← Nat.add_mul]; congr 1; omega
       refine ⟨u, ?_, VR.mono (GLe.refl _) hle h4⟩
       rw [immNew_at _ (by omega), hget, if_pos ⟨by omega, by omega⟩]
       rw [show o + k * sz + j - (o + xs.length * sz) = (k - xs.length) * sz + j by omega]
       exact h3
theorem app_room_ob {t tx ty e : TypeId} {sz by_ c s g len fz : Nat} {z : AV} {A : Option Addr} {x : Value} {es ys : List AV} {news : List Value} {i0 : GInfo} {r : Result Next} (ap : AppK P t tx e sz by_ z) (hg : G gen = none) (rel : Rel G I h w)
   (hs : h[s]? = some (.blk g es true true fz)) (hi0 : G g = some i0) (hc : c = i0.cap) (hA : c = 0 ∨ A = some ⟨i0.blk, 0, none⟩) (hle : len ≤ es.length) (hfz : fz ≤ len) (hes : i0.esz = sz)
   (hy : Src P sz tx x ys.length news w) (hn : NewsR G I ys news sz) (hm : ys ≠ []) (hfit : len + ys.length ≤ c)
   (hr : r = ((Builtin.append_ #[t, tx] ty #[.slice A len c, x]).bind fun v => Sem.pure (.value v)).run P w) : Step G I h w gen slot r (.ob slot gen 0 (len + ys.length)) ((h.set s .dead).set slot (.blk gen (es.take len ++ ys) true true fz)) := by
 obtain ⟨i0', cs, ty', hi0', hsl, hw, hsz, hpos, hcap, _, _, hE, hI⟩ := rel.obj s _ hs
 obtain rfl : i0 = i0' := by rw [hi0] at hi0'; simpa using hi0'
 have hm0 : 0 < ys.length := List.length_pos_iff.2 hm
 obtain rfl : A = some ⟨i0.blk, 0, none⟩ := hA.resolve_left (by omega)
 subst hes
 have hcm : (len + ys.length) * i0.esz ≤ i0.cap * i0.esz := Nat.mul_le_mul_right _ (by omega)
 rw [Nat.add_mul] at hcm
 have hnl := hn.1
 have hrun := append_room (ty := ty) ap.ht ap.hs hy hfit hw (off := 0) (by omega)
 simp only [Nat.zero_add] at hrun
 have hx1 : r = .ok (.value (.slice (some ⟨i0.blk, 0, none⟩) (len + ys.length) c)) (w.setRow i0.blk (cs.toList.take (len * i0.esz) ++ news ++ cs.toList.drop (len * i0.esz + news.length)).toArray) := by
   rw [hr, run_bind', hrun]
   rfl
 have hget := fun j => splice_arr (cs := cs) (vs := news) (o := len * i0.esz) (by omega) j
 generalize hcs' : (cs.toList.take (len * i0.esz) ++ news ++ cs.toList.drop (len * i0.esz + news.length)).toArray = cs' at hx1 hget
 have hsz' : cs'.size = cs.size := by
   rw [← hcs']
   simp
   omega
 have hown : own G (.blk g es true true fz) = some i0.blk := by simp [own, hi0]
 have hw' := setRow_heap w i0.blk cs cs' ty' (0, 0) hw
 have hfm : fz * i0.esz ≤ len * i0.esz := Nat.mul_le_mul_right _ hfz
 refine Step.make (w' := w.setRow i0.blk cs') (i := ⟨slot, i0.blk, i0.esz, i0.cap, 0, 0, false⟩) (I' := I) hg rfl (rel.kill s) killed_sub (.inr ⟨s, _, hs, hown⟩) (fun j o hj ho => ?_) (ILe.refl _)
   (fun b x hb hx => by rw [setRow_other w _ _ _ hb]; exact hx) (fun _ _ _ _ hv => hv) (fun q v hv => ?_) ?_ ?_ rfl rfl rfl (by simp) hx1 ?_
 · obtain ⟨h1, h2⟩ := killed_owns hj ho
   exact h1 (rel.inj j s o _ _ h2 hs ho hown)
 · have h1 := hI q v hv
   rw [cell_setRow_same w _ q cs cs' ty' _ hw, hget q, if_neg (by omega)]
   have h2 := rel.imm _ q v hv
   simpa [World.cell?, hw] using h2
 · refine ⟨_, cs', ty', Ghost.put_same, rfl, hw', by simp only; omega, hpos, by simp; omega, by simp, ⟨by simp; omega, by simp⟩, ?_, fun q v hv => hI q v hv⟩
   refine ElemsR.mono (e := i0.esz) (Ghost.put_le _ hg) (ILe.refl _) (fun k y hk => ?_)
   rw [List.getElem?_append] at hk
   have htl : (es.take len).length = len := by simp; omega
   rw [htl] at hk
   split at hk
   · rename_i hkl
     rw [List.getElem?_take_of_lt hkl] at hk
     obtain ⟨h1, h2⟩ := hE k y hk
     refine ⟨h1, fun j c hj => ?_⟩
     obtain ⟨u, h3, h4⟩ := h2 j c hj
     have hjl := (List.getElem?_eq_some_iff.1 hj).1
     have := mul_lt_of hkl (show j < i0.esz by omega)
     exact ⟨u, by rw [hget, if_neg (by omega)]; exact h3, h4⟩
   · rename_i hkl
     obtain ⟨h1, h2⟩ := hn.2 _ y hk
     refine ⟨h1, fun j c hj => ?_⟩
     obtain ⟨u, h3, h4⟩ := h2 j c hj
     have hlt := (List.getElem?_eq_some_iff.1 h3).1
     have he : k * i0.esz = len * i0.esz + (k - len) * i0.esz := by rw [← Nat.add_mul]; congr 1; omega
     refine ⟨u, ?_, h4⟩
     rw [hget, if_pos ⟨by omega, by omega⟩]
     rw [show k * i0.esz + j - len * i0.esz = (k - len) * i0.esz + j by omega]
     exact h3
 · intro b hb
   simp [own] at hb
   exact hb.symm
 · simp only [VR]
   exact ⟨_, _, _, Ghost.put_same, rfl, rfl, hfit, by simp only; omega, .inr (by simp)⟩
theorem app_room_fix {t tx ty e : TypeId} {sz by_ c s g len fz : Nat} {z : AV} {A : Option Addr} {x : Value} {es ys : List AV} {news : List Value} {i0 : GInfo} {r : Result Next} (ap : AppK P t tx e sz by_ z) (hg : G gen = none) (rel : Rel G I h w)
   (hs : h[s]? = some (.blk g es true false fz)) (hi0 : G g = some i0) (hc : c = i0.cap) (hA : c = 0 ∨ A = some ⟨i0.blk, 0, none⟩) (hfz : fz ≤ len) (hes : i0.esz = sz)
   (hy : Src P sz tx x ys.length news w) (hn : NewsR G I ys news sz) (hm : ys ≠ []) (hfit : len + ys.length ≤ es.length)
   (hr : r = ((Builtin.append_ #[t, tx] ty #[.slice A len c, x]).bind fun v => Sem.pure (.value v)).run P w) :
   Step G I h w gen slot r (.ob s g 0 (len + ys.length)) (h.set s (.blk g (es.take len ++ ys ++ es.drop (len + ys.length)) true false fz)) := by
 obtain ⟨i0', cs, ty', hi0', hsl, hw, hsz, hpos, hcap, hgr, hfz2, hE, hI⟩ := rel.obj s _ hs
 obtain rfl : i0 = i0' := by rw [hi0] at hi0'; simpa using hi0'
 have hec := hgr rfl
 have hm0 : 0 < ys.length := List.length_pos_iff.2 hm
 obtain rfl : A = some ⟨i0.blk, 0, none⟩ := hA.resolve_left (by omega)
 subst hes
 have hcm : (len + ys.length) * i0.esz ≤ i0.cap * i0.esz := Nat.mul_le_mul_right _ (by omega)
 rw [Nat.add_mul] at hcm
 have hnl := hn.1
 have hrun := append_room (ty := ty) ap.ht ap.hs hy (c := c) (n := len) (by omega) hw (off := 0) (by omega)
 simp only [Nat.zero_add] at hrun
 have hx1 : r = .ok (.value (.slice (some ⟨i0.blk, 0, none⟩) (len + ys.length) c)) (w.setRow i0.blk (cs.toList.take (len * i0.esz) ++ news ++ cs.toList.drop (len * i0.esz + news.length)).toArray) := by
   rw [hr, run_bind', hrun]
   rfl
 have hget := fun j => splice_arr (cs := cs) (vs := news) (o := len * i0.esz) (by omega) j
 generalize hcs' : (cs.toList.take (len * i0.esz) ++ news ++ cs.toList.drop (len * i0.esz + news.length)).toArray = cs' at hx1 hget
 have hsz' : cs'.size = cs.size := by
   rw [← hcs']
   simp
   omega
 have hown : own G (.blk g es true false fz) = some i0.blk := by simp [own, hi0]
 have hfm : fz * i0.esz ≤ len * i0.esz := Nat.mul_le_mul_right _ hfz
 have hel : (es.take len ++ ys ++ es.drop (len + ys.length)).length = es.length := by simp; omega
 refine ⟨_, _, _, G, I, hx1, .inl rfl, ?_, rel.setRow hs hi0 hw hsz' (by omega) (fun _ => by omega) ⟨by omega, by simp⟩ ?_ (fun q v hv => ⟨hI q v hv, ?_⟩), GLe.refl _, ILe.refl _, fun _ _ => rfl, fun i hi => by simp [hg] at hi, ?_, Fr.setRow hs hown, IFr.refl⟩
 · simp only [VR]
   exact ⟨i0, _, _, hi0, hsl, rfl, by omega, by omega, .inr (by simp)⟩
 · intro k y hk
   have htl : (es.take len).length = len := by simp; omega
   rw [List.append_assoc, List.getElem?_append, htl] at hk
   split at hk
   · rename_i hkl
     rw [List.getElem?_take_of_lt hkl] at hk
     obtain ⟨h1, h2⟩ := hE k y hk
     refine ⟨h1, fun j c hj => ?_⟩
     obtain ⟨u, h3, h4⟩ := h2 j c hj
     have hjl := (List.getElem?_eq_some_iff.1 hj).1
     have := mul_lt_of hkl (show j < i0.esz by omega)
     exact ⟨u, by rw [hget, if_neg (by omega)]; exact h3, h4⟩
   · rename_i hkl
     rw [List.getElem?_append] at hk
     have he : k * i0.esz = len * i0.esz + (k - len) * i0.esz := by rw [← Nat.add_mul]; congr 1; omega
     split at hk
     · rename_i hkm
       obtain ⟨h1, h2⟩ := hn.2 _ y hk
       refine ⟨h1, fun j c hj => ?_⟩
       obtain ⟨u, h3, h4⟩ := h2 j c hj
       have hlt := (List.getElem?_eq_some_iff.1 h3).1
       refine ⟨u, ?_, h4⟩
       rw [hget, if_pos ⟨by omega, by omega⟩]
       rw [show k * i0.esz + j - len * i0.esz = (k - len) * i0.esz + j by omega]
       exact h3
     · rename_i hkm
       rw [List.getElem?_drop] at hk
       rw [show len + ys.length + (k - len - ys.length) = k by omega] at hk
       obtain ⟨h1, h2⟩ := hE k y hk
       refine ⟨h1, fun j c hj => ?_⟩
       obtain ⟨u, h3, h4⟩ := h2 j c hj
       have : (len + ys.length) * i0.esz ≤ k * i0.esz := Nat.mul_le_mul_right _ (by omega)
       rw [Nat.add_mul] at this
       exact ⟨u, by rw [hget, if_neg (by omega)]; exact h3, h4⟩
 · have := hI q v hv
   rw [hget, if_neg (by omega)]
 · refine OwnLe.same fun j o hj => ?_
   rcases getElem?_set_cases hj with ⟨rfl, rfl⟩ | ⟨_, hj⟩
   · exact ⟨j, _, hs, fun b hb => by simpa [own] using hb⟩
   · exact ⟨j, o, hj, fun _ hb => hb⟩
end
section
variable {P : Program} {G : Ghost} {I : Imm} {h : List AObj} {w : World} {gen slot : Nat}
theorem allCells_take {sz n : Nat} {es : List AV} (ha : allCells sz es = true) : allCells sz (es.take n) = true :=
 allCells_iff.2 fun x hx => allCells_iff.1 ha x (List.mem_of_mem_take hx)
theorem append_step {t tx ty e : TypeId} {sz by_ : Nat} {z : AV} {mu : Bool} {x y v : AV} {cx cy : Value} {h' : List AObj} {r : Result Next} (ap : AppK P t tx e sz by_ z) (hg : G gen = none) (rel : Rel G I h w)
   (hx : VR G I x cx) (hy : VR G I y cy) (ha : appendVal h slot gen sz by_ mu x y = some (v, h'))
   (hr : r = ((Builtin.append_ #[t, tx] ty #[cx, cy]).bind fun v => Sem.pure (.value v)).run P w) : Step G I h w gen slot r v h' := by
 unfold appendVal at ha
 split at ha
 · simp at ha
 · rename_i ys hys
   split at ha
   · simp at ha
   · rename_i hall2
     have hall2 : allCells sz ys = true := by simpa using hall2
     obtain ⟨news, hsy, hn⟩ := src_ok rel hys hy hall2 ap.h0 ap.hk
     have htk : (∃ e', P.underlying t = some (.slice e')) ∨ P.underlying t = some .string := .inl ⟨e, ap.ht⟩
     have self : ∀ (i : Nat) o b, h[i]? = some o → own G o = some b → ∃ (j : Nat) (x : AObj), h[j]? = some x ∧ own G x = some b := fun i o b hi hb => ⟨i, o, hi, hb⟩
     split at ha
     · rename_i xs tp
       split at ha
       · simp at ha
       · rename_i hcond
         simp only [Bool.or_eq_true, decide_eq_true_eq, Bool.not_eq_true', not_or, Nat.not_lt, Bool.not_eq_false] at hcond
         obtain ⟨hroom, hall⟩ := hcond
         obtain ⟨olds, hsx, ho⟩ := src_ok rel (y := .sl xs tp) (ys := xs) rfl hx hall ap.h0 htk
         simp only [VR] at hx
         obtain ⟨A, n, c, rfl, rfl, hnc, htip, hrow⟩ := hx
         have grow : ∀ h1, Rel G I h1 w → (∀ (i : Nat) o b, h1[i]? = some o → own G o = some b → ∃ (j : Nat) (x : AObj), h[j]? = some x ∧ own G x = some b) → c < xs.length + ys.length →
             Step G I h w gen slot r (.sl (xs ++ ys) (.at slot gen)) (h1.set slot (.tip gen sz)) := fun h1 rel1 hown hgr => app_grow_tip ap hg rel1 hown hsx hsy ho hn hgr hroom hr
         have same : ∀ h1, Rel G I h1 w → (∀ (i : Nat) o b, h1[i]? = some o → own G o = some b → ∃ (j : Nat) (x : AObj), h[j]? = some x ∧ own G x = some b) → c = xs.length → ys = [] →
             Step G I h w gen slot r (.sl (xs ++ ys) (.at slot gen)) (h1.set slot (.tip gen sz)) := fun h1 rel1 hown hc he => by
           subst he
           have hnn : news = [] := List.length_eq_zero_iff.1 (by rw [hn.1]; simp)
           subst hnn
           rw [List.append_nil]
           exact app_none_tip ap hg rel1 hown hsy hc hall hrow hr
         have either : ∀ h1, Rel G I h1 w → (∀ (i : Nat) o b, h1[i]? = some o → own G o = some b → ∃ (j : Nat) (x : AObj), h[j]? = some x ∧ own G x = some b) → c = xs.length →
             Step G I h w gen slot r (.sl (xs ++ ys) (.at slot gen)) (h1.set slot (.tip gen sz)) := fun h1 rel1 hown hc => by
           cases hye : ys with
           | nil => rw [← hye]; exact same h1 rel1 hown hc hye
           | cons b bs =>
             rw [← hye]
             refine grow h1 rel1 hown ?_
             have : 0 < ys.length := by rw [hye]; simp
             omega
         split at ha
         · rename_i hmu
           split at ha
           · rename_i b bs
             simp at ha
             obtain ⟨rfl, rfl⟩ := ha
             simp only [TipR] at htip
             have := app_grow_ob (slot := slot) (h := h) (fz := 0) ap hg rel self hsx hsy ho hn (by simp; omega) hroom (Nat.zero_le _) hr
             simpa using this
           · rename_i b bs
             simp at ha
             obtain ⟨rfl, rfl⟩ := ha
             simp only [TipR] at htip
             have := app_grow_ob (slot := slot) (h := h) (fz := 0) ap hg rel self hsx hsy ho hn (by simp; omega) hroom (Nat.zero_le _) hr
             simpa using this
           · simp at ha
         · rename_i hmu
           split at ha
           · simp at ha
             obtain ⟨rfl, rfl⟩ := ha
             simp only [TipR] at htip
             exact either h rel self htip
           · simp at ha
             obtain ⟨rfl, rfl⟩ := ha
             simp only [TipR] at htip
             exact either h rel self (by omega)
           · rename_i s g
             split at ha
             · rename_i g' e' hs
               split at ha
               · rename_i hge
                 obtain ⟨rfl, rfl⟩ := hge
                 simp at ha
                 obtain ⟨rfl, rfl⟩ := ha
                 simp only [TipR] at htip
                 obtain ⟨i0, hi0, hsl, hpos, hcl, htip⟩ := htip
                 obtain ⟨i0', hi0', _, hesz, _⟩ := rel.obj s _ hs
                 obtain rfl : i0 = i0' := by rw [hi0] at hi0'; simpa using hi0'
                 rcases htip with hc | ⟨hroomy, hA⟩
                 · exact either _ (rel.kill s) killed_sub hc
                 · by_cases hfit : xs.length + ys.length ≤ c
                   · exact app_room_tip ap hg rel hs hi0 hroomy hA hall hall2 hrow hsy hn hfit hr
                   · exact grow _ (rel.kill s) killed_sub (by omega)
               · simp at ha
             · simp at ha
           · simp at ha
     · rename_i s g off len
       split at ha
       · rename_i es grow fz hb
         have hs := blkAt_eq hb
         split at ha
         · simp at ha
         · rename_i hcond
           simp only [Bool.or_eq_true, decide_eq_true_eq, Bool.not_eq_true', not_or, Nat.not_lt, Bool.not_eq_false, beq_iff_eq] at hcond
           obtain ⟨⟨hroom, hall⟩, rfl⟩ := hcond
           split at ha
           · rename_i hye
             simp at ha
             obtain ⟨rfl, rfl⟩ := ha
             have hye : ys = [] := by simpa using hye
             subst hye
             have hnn : news = [] := List.length_eq_zero_iff.1 (by rw [hn.1]; simp)
             subst hnn
             have hx0 := hx
             simp only [VR] at hx
             obtain ⟨i0, A, c, hi0, hsl, rfl, hlc, hoc, hA⟩ := hx
             refine Step.pure hg rel (cv := .slice A len c) ?_ hx0
             rw [hr, run_bind', append_none ap.ht ap.hs hsy hlc]
             rfl
           · rename_i hye
             have hye : ys ≠ [] := by simpa using hye
             have hm0 : 0 < ys.length := List.length_pos_iff.2 hye
             obtain ⟨i1, cs1, ty1, hi1, _, _, _, _, hcap1, hgr1, _, hE1, _⟩ := rel.obj s _ hs
             have olds : len ≤ es.length → ∃ olds, Src P sz t cx len olds w ∧ NewsR G I (es.take len) olds sz := fun hle => by
               have hro : srcOf h (.ob s g 0 len) = some (es.take len) := by simp [srcOf, rowOf, hb, hle]
               obtain ⟨olds, h1, h2⟩ := src_ok rel hro hx (allCells_take hall) ap.h0 htk
               have htl : (es.take len).length = len := by simp; omega
               rw [htl] at h1
               exact ⟨olds, h1, h2⟩
             simp only [VR] at hx
             obtain ⟨i0, A, c, hi0, hsl, rfl, hlc, hoc, hA⟩ := hx
             obtain rfl : i0 = i1 := by rw [hi0] at hi1; simpa using hi1
             rw [Nat.zero_mul] at hA
             have hesz : 0 < es.length → i0.esz = sz := fun hlt => by
               have h1 := (hE1 0 es[0] (List.getElem?_eq_getElem hlt)).1
               have h2 := (allCells_iff.1 hall es[0] (List.getElem_mem hlt)).2.1
               omega
             have grow' : len ≤ es.length → ∀ fz', fz' ≤ len → ∀ h1, Rel G I h1 w → (∀ (i : Nat) o b, h1[i]? = some o → own G o = some b → ∃ (j : Nat) (x : AObj), h[j]? = some x ∧ own G x = some b) → c < len + ys.length →
                 Step G I h w gen slot r (.ob slot gen 0 (len + ys.length)) (h1.set slot (.blk gen (es.take len ++ ys) true true fz')) := fun hle fz' hfz h1 rel1 hown hgr => by
               obtain ⟨olds, h2, h3⟩ := olds hle
               have key : ∀ xs : List AV, xs.length = len → NewsR G I xs olds sz → Step G I h w gen slot r (.ob slot gen 0 (len + ys.length)) (h1.set slot (.blk gen (xs ++ ys) true true fz')) := fun xs hxl h4 => by
                 subst hxl
                 exact app_grow_ob ap hg rel1 hown h2 hsy h4 hn hgr hroom hfz hr
               exact key _ (by simp; omega) h3
             split at ha
             · rename_i hgrow
               subst hgrow
               split at ha
               · rename_i hc
                 simp at ha
                 obtain ⟨rfl, rfl⟩ := ha
                 by_cases hfit : len + ys.length ≤ c
                 · exact app_room_ob ap hg rel hs hi0 (by omega) hA hc.2.1 hc.1 (hesz hc.2.2) hsy hn hye hfit hr
                 · exact grow' hc.2.1 fz hc.1 _ (rel.kill s) killed_sub (by omega)
               · simp at ha
             · rename_i hgrow
               have hgrow : grow = false := by simpa using hgrow
               subst hgrow
               have hec := hgr1 rfl
               split at ha
               · rename_i hfit
                 split at ha
                 · rename_i hfz
                   simp at ha
                   obtain ⟨rfl, rfl⟩ := ha
                   have := app_room_fix (slot := slot) ap hg rel hs hi0 (by omega) hA hfz (hesz (by omega)) hsy hn hye hfit hr
                   simpa using this
                 · simp at ha
               · rename_i hfit
                 split at ha
                 · rename_i hle
                   simp at ha
                   obtain ⟨rfl, rfl⟩ := ha
                   exact grow' hle 0 (Nat.zero_le _) _ rel self (by omega)
                 · simp at ha
       · simp at ha
     · simp at ha
end
end Go.Proofs.YtbeooboebfbchaaGreatDoor.Am
