/- One operation of the abstract machine stands for one operation of the model: the rest, and all together. Calls of the abstract machine: what is handed over and given back. -/
import Derived.Test.YtbeooboebfbchaaGreatDoorM08
set_option linter.unusedVariables false
set_option linter.unusedSimpArgs false
namespace Go.Proofs.YtbeooboebfbchaaGreatDoor.Am
open Go
set_option maxRecDepth 100000
section
variable {P : Program} {G : Ghost} {I : Imm} {h : List AObj} {w : World} {gen slot : Nat}
variable {ts : Tmps} {ρ : Operand → Value} {v : AV} {h' : List AObj} {n : Nat} {mu : Bool} {base : Nat} {back : Nat → Option Nat}
theorem do_slice {t : TypeId} {x : Operand} {lo hi mx : Option Operand} {a : AOp} (hg : G gen = none) (rel : Rel G I h w) (ht : TR G I ts ρ) (hc : cOp P back n mu (.slice t x lo hi mx) = some a) (hp : prim h base gen ts a = some (v, h')) : Does P G I h w gen slot ρ (.slice t x lo hi mx) v h' := by
 simp only [cOp] at hc
 split at hc
 · rename_i hu
   split at hc
   · rename_i x1 lo1 hi1 mx1 h1 h2 h3 h4
     simp at hc
     subst hc
     have hx := cOpd_ok ht h1
     have hlo := cOpdO_ok ht h2
     have hhi := cOpdO_ok ht h3
     have hmx := cOpdO_ok ht h4
     simp only [prim, Option.map_eq_some_iff, Prod.mk.injEq] at hp
     obtain ⟨v', hs, rfl, rfl⟩ := hp
     unfold sliceVal at hs
     split at hs
     · rename_i s _ heq
       rw [heq] at hx
       split at hs
       · rename_i l r hl hr hm
         split at hs
         · rename_i hlr
           simp at hs
           subst hs
           have hmn : mx.map ρ = none := by
             cases mx with
             | none => rfl
             | some m =>
               simp [cOpdO] at h4
               obtain ⟨q, _, rfl⟩ := h4
               simp at hm
           simp only [VR] at hx
           obtain ⟨hx, hb⟩ := hx
           intro _ _ _ _ _
           refine Step.val (s := Instr.sliceAt t (ρ x) (lo.map ρ) (hi.map ρ) (mx.map ρ)) hg rel ?_
           rw [hmn, hx]
           exact slice_str hb hu hlo hhi hl hr hlr.1 hlr.2
         · simp at hs
       · simp at hs
     · rename_i _ heq
       simp at *
     · rename_i _ heq
       simp at *
     · simp at hs
   · simp at hc
 · rename_i e hu
   split at hc
   · rename_i sz x1 lo1 hi1 mx1 hsz h1 h2 h3 h4
     simp at hc
     subst hc
     have hx := cOpd_ok ht h1
     have hlo := cOpdO_ok ht h2
     have hhi := cOpdO_ok ht h3
     have hmx := cOpdO_ok ht h4
     simp only [prim, Option.map_eq_some_iff, Prod.mk.injEq] at hp
     obtain ⟨v', hs, rfl, rfl⟩ := hp
     unfold sliceVal at hs
     split at hs
     · simp at *
     · rename_i esz xs tp he heq
       simp at he
       subst he
       rw [heq] at hx
       split at hs
       · rename_i l r hl hr
         split at hs
         · rename_i hcond
           obtain ⟨hlr, hrx, hh⟩ := hcond
           split at hs
           · rename_i hm
             simp at hs
             subst hs
             have hmn : mx.map ρ = none := by
               cases mx with
               | none => rfl
               | some m =>
                 simp [cOpdO] at h4
                 obtain ⟨q, _, rfl⟩ := h4
                 simp at hm
             intro _ _ _ _ _
             refine Step.val (s := Instr.sliceAt t (ρ x) (lo.map ρ) (hi.map ρ) (mx.map ρ)) hg rel ?_
             rw [hmn]
             refine slice_sl (m := 0) hx hu hsz hh hlr hrx (fun c hc => ?_) (.inl ⟨rfl, ?_⟩)
             · rw [if_pos rfl]
               exact sliceBounds_ok hlo hhi hl hr hlr (by omega)
             · split
               · split
                 · rename_i h; rw [h]
                 · rfl
               · rfl
           · rename_i m hm
             split at hs
             · rename_i m' hbm
               split at hs
               · rename_i hmr
                 simp at hs
                 subst hs
                 obtain ⟨rfl, hhs⟩ := hmr
                 intro _ _ _ _ _
                 refine Step.val (s := Instr.sliceAt t (ρ x) (lo.map ρ) (hi.map ρ) (mx.map ρ)) hg rel ?_
                 rw [hm] at hmx
                 refine slice_sl (m := 1) hx hu hsz hh hlr hrx (fun c hc => ?_) (.inr ⟨by omega, rfl⟩)
                 rw [if_neg (by omega)]
                 exact sliceBounds3_ok (mx := some m) hlo hhi hmx hl hr hbm (by simpa using hhs) rfl hlr (by omega)
               · simp at hs
             · simp at hs
         · simp at hs
       · simp at hs
     · rename_i esz s g off len he heq
       simp at he
       subst he
       rw [heq] at hx
       split at hs
       · rename_i es grow fz l r hb hl hr hm
         have hs' : (l ≤ r ∧ headLen sz es = true ∧ (if grow then r ≤ len ∧ off + len ≤ es.length else off + r ≤ es.length)) ∧ AV.ob s g (off + l) (r - l) = v' := by
           by_cases hcond : (l ≤ r ∧ headLen sz es = true ∧ (if grow then r ≤ len ∧ off + len ≤ es.length else off + r ≤ es.length))
           · rw [if_pos hcond] at hs
             exact ⟨hcond, by simpa using hs⟩
           · rw [if_neg hcond] at hs
             simp at hs
         obtain ⟨hcond, rfl⟩ := hs'
         have hmn : mx.map ρ = none := by
           cases mx with
           | none => rfl
           | some m =>
             simp [cOpdO] at h4
             obtain ⟨q, _, rfl⟩ := h4
             simp at hm
         intro _ _ _ _ _
         refine Step.val (s := Instr.sliceAt t (ρ x) (lo.map ρ) (hi.map ρ) (mx.map ρ)) hg rel ?_
         rw [hmn]
         exact slice_ob rel hx hu hsz hb hcond.2.1 hlo hhi hl hr hcond.1 hcond.2.2
       · simp at hs
     · simp at hs
   · simp at hc
 · simp at hc
theorem do_fieldAddr {t : TypeId} {x : Operand} {f : Nat} {a : AOp} (hg : G gen = none) (rel : Rel G I h w) (ht : TR G I ts ρ) (hc : cOp P back n mu (.fieldAddr t x f) = some a) (hp : prim h base gen ts a = some (v, h')) : Does P G I h w gen slot ρ (.fieldAddr t x f) v h' := by
 simp only [cOp] at hc
 split at hc
 · rename_i o ft x1 hf h1
   split at hc
   · rename_i m hs
     simp at hc
     subst hc
     have hx := cOpd_ok ht h1
     simp only [prim] at hp
     split at hp
     · rename_i s g i o' heq
       rw [heq] at hx
       simp at hp
       obtain ⟨rfl, rfl⟩ := hp
       simp only [VR] at hx
       obtain ⟨gi, h2, h3, h4⟩ := hx
       intro _ _ _ _ _
       refine Step.val (s := Instr.fieldAt t (ρ x) f) hg rel ⟨_, by rw [h4]; exact fieldAt_ok hf hs, ?_⟩
       simp only [VR]
       exact ⟨gi, h2, h3, by rw [Nat.add_assoc]⟩
     · rename_i cs o' heq
       rw [heq] at hx
       simp at hp
       obtain ⟨rfl, rfl⟩ := hp
       simp only [VR] at hx
       obtain ⟨b, p, h4, h5⟩ := hx
       intro _ _ _ _ _
       refine Step.val (s := Instr.fieldAt t (ρ x) f) hg rel ⟨_, by rw [h4]; exact fieldAt_ok hf hs, ?_⟩
       simp only [VR]
       exact ⟨b, p, by rw [Nat.add_assoc], h5⟩
     · simp at hp
   · simp at hc
 · simp at hc
theorem do_field {t : TypeId} {x : Operand} {f : Nat} {a : AOp} (hg : G gen = none) (rel : Rel G I h w) (ht : TR G I ts ρ) (hc : cOp P back n mu (.field t x f) = some a) (hp : prim h base gen ts a = some (v, h')) : Does P G I h w gen slot ρ (.field t x f) v h' := by
 simp only [cOp] at hc
 split at hc
 · rename_i o ft x1 hf h1
   simp only [Option.map_eq_some_iff] at hc
   obtain ⟨l, hl, rfl⟩ := hc
   have hx := cOpd_ok ht h1
   simp only [prim] at hp
   split at hp
   · rename_i cs heq
     rw [heq] at hx
     simp only [Option.map_eq_some_iff, Prod.mk.injEq] at hp
     obtain ⟨v', hr, rfl, rfl⟩ := hp
     intro _ _ _ _ _
     exact Step.val (s := Instr.field t (ρ x) f) hg rel (field_ok hx hf hl hr)
   · simp at hp
 · simp at hc
theorem do_indexAddr {t : TypeId} {x ix : Operand} {a : AOp} (hg : G gen = none) (rel : Rel G I h w) (ht : TR G I ts ρ) (hc : cOp P back n mu (.indexAddr t x ix) = some a) (hp : prim h base gen ts a = some (v, h')) : Does P G I h w gen slot ρ (.indexAddr t x ix) v h' := by
 have key : ∀ {arr : Option Nat} {s : Nat} {x1 i1 : AOpd}, cOpd x = some x1 → cOpd ix = some i1 → a = .indexAddr arr s x1 i1 → ((arr = none ∧ ∃ e, P.underlying t = some (.slice e) ∧ sizeP P e = some s) ∨ ∃ m e, arr = some m ∧ P.underlying t = some (.array m e) ∧ sizeP P e = some s) →
     Does P G I h w gen slot ρ (.indexAddr t x ix) v h' := by
   intro arr s x1 i1 h1 h2 ha hu
   subst ha
   have hx := cOpd_ok ht h1
   have hi := cOpd_ok ht h2
   simp only [prim] at hp
   split at hp
   · rename_i k i heqi
     rw [heqi] at hi
     simp only [VR] at hi
     split at hp
     · rename_i h0
       rcases hu with ⟨rfl, e, hu, hs⟩ | ⟨m, e, rfl, hu, hs⟩
       · split at hp
         · rename_i xs tp _ heq
           rw [heq] at hx
           split at hp
           · rename_i y hy
             split at hp
             · rename_i hl
               simp at hp
               obtain ⟨rfl, rfl⟩ := hp
               intro _ _ _ _ _
               refine Step.val (s := Instr.indexAt t (ρ x) (ρ ix)) hg rel ?_
               rw [hi]
               exact indexSl_ok hu hs hx h0 hy hl
             · simp at hp
           · simp at hp
         · rename_i s' g off len _ heq
           rw [heq] at hx
           split at hp
           · rename_i es grow fz hb
             split at hp
             · rename_i y hy
               split at hp
               · rename_i hl
                 simp at hp
                 obtain ⟨rfl, rfl⟩ := hp
                 intro _ _ _ _ _
                 refine Step.val (s := Instr.indexAt t (ρ x) (ρ ix)) hg rel ?_
                 rw [hi]
                 exact indexOb_ok rel hu hs hx hb h0 hy hl.1 hl.2
               · simp at hp
             · simp at hp
           · simp at hp
         · simp at *
         · simp at *
         · simp at hp
       · split at hp
         · simp at *
         · simp at *
         · rename_i m' s' g k' o he heq
           simp at he
           subst he
           rw [heq] at hx
           split at hp
           · rename_i hlt
             simp at hp
             obtain ⟨rfl, rfl⟩ := hp
             simp only [VR] at hx
             obtain ⟨gi, h3, h4, h5⟩ := hx
             intro _ _ _ _ _
             refine Step.val (s := Instr.indexAt t (ρ x) (ρ ix)) hg rel ⟨_, by rw [hi, h5]; exact indexArr_ok hu hs h0 hlt, ?_⟩
             simp only [VR]
             exact ⟨gi, h3, h4, by rw [Nat.add_assoc]⟩
           · simp at hp
         · rename_i m' cs o he heq
           simp at he
           subst he
           rw [heq] at hx
           split at hp
           · rename_i hlt
             simp at hp
             obtain ⟨rfl, rfl⟩ := hp
             simp only [VR] at hx
             obtain ⟨b, p, h4, h5⟩ := hx
             intro _ _ _ _ _
             refine Step.val (s := Instr.indexAt t (ρ x) (ρ ix)) hg rel ⟨_, by rw [hi, h4]; exact indexArr_ok hu hs h0 hlt, ?_⟩
             simp only [VR]
             exact ⟨b, p, by rw [Nat.add_assoc], h5⟩
           · simp at hp
         · simp at hp
     · simp at hp
   · simp at hp
 simp only [cOp] at hc
 split at hc
 · rename_i x1 i1 h1 h2
   split at hc
   · rename_i e hu
     split at hc
     · rename_i s hs
       split at hc
       · simp at hc
       · simp at hc
         exact key h1 h2 hc.symm (.inl ⟨rfl, e, hu, hs⟩)
     · simp at hc
   · rename_i m e hu
     split at hc
     · rename_i s hs
       split at hc
       · simp at hc
       · simp at hc
         exact key h1 h2 hc.symm (.inr ⟨m, e, rfl, hu, hs⟩)
     · simp at hc
   · simp at hc
 · simp at hc
theorem do_index {t : TypeId} {x ix : Operand} {a : AOp} (hg : G gen = none) (rel : Rel G I h w) (ht : TR G I ts ρ) (hc : cOp P back n mu (.index t x ix) = some a) (hp : prim h base gen ts a = some (v, h')) : Does P G I h w gen slot ρ (.index t x ix) v h' := by
 simp only [cOp] at hc
 split at hc
 · rename_i x1 i1 h1 h2
   have hx := cOpd_ok ht h1
   have hi := cOpd_ok ht h2
   split at hc
   · rename_i hu
     simp at hc
     subst hc
     simp only [prim] at hp
     split at hp
     · rename_i k i heqi
       rw [heqi] at hi
       simp only [VR] at hi
       split at hp
       · rename_i h0
         split at hp
         · rename_i s _ heq
           rw [heq] at hx
           simp only [Option.map_eq_some_iff, Prod.mk.injEq] at hp
           obtain ⟨b, hb, rfl, rfl⟩ := hp
           intro _ _ _ _ _
           refine Step.val (s := Instr.index t (ρ x) (ρ ix)) hg rel ?_
           rw [hi]
           exact indexStr_ok hu hx h0 hb
         · simp at *
         · simp at hp
       · simp at hp
     · simp at hp
   · rename_i m e hu
     split at hc
     · rename_i s l hs hl
       split at hc
       · simp at hc
       · simp at hc
         subst hc
         simp only [prim] at hp
         split at hp
         · rename_i k i heqi
           rw [heqi] at hi
           simp only [VR] at hi
           split at hp
           · rename_i h0
             split at hp
             · simp at *
             · rename_i m' s' l' cs he heq
               simp at he
               obtain ⟨rfl, rfl, rfl⟩ := he
               rw [heq] at hx
               split at hp
               · rename_i hlt
                 simp only [Option.map_eq_some_iff, Prod.mk.injEq] at hp
                 obtain ⟨v', hr, rfl, rfl⟩ := hp
                 intro _ _ _ _ _
                 refine Step.val (s := Instr.index t (ρ x) (ρ ix)) hg rel ?_
                 rw [hi]
                 exact indexAgg_ok hu hs hl hx h0 hlt hr
               · simp at hp
             · simp at hp
           · simp at hp
         · simp at hp
     · simp at hc
   · simp at hc
 · simp at hc
theorem do_makeFunc {f : Fn} {first cap : Array Operand} {a : AOp} (hg : G gen = none) (rel : Rel G I h w) (ht : TR G I ts ρ) (hc : cOp P back n mu (.makeFunc f first cap) = some a) (hp : prim h base gen ts a = some (v, h')) : Does P G I h w gen slot ρ (.makeFunc f first cap) v h' := by
 cases f <;> simp only [cOp] at hc <;> try (simp at hc; done)
 rename_i f
 split at hc
 · rename_i hfirst
   simp only [Option.map_eq_some_iff] at hc
   obtain ⟨xs, h1, rfl⟩ := hc
   simp [prim] at hp
   obtain ⟨rfl, rfl⟩ := hp
   have hf : first = #[] := by simpa using hfirst
   subst hf
   intro _ _ _ _ _
   refine Step.val (s := Instr.makeFunc (.func f) ((#[] : Array Operand).map ρ) (cap.map ρ)) hg rel ⟨.func (.func f) #[] (cap.map ρ), by simp [Instr.makeFunc], ?_⟩
   simp only [VR]
   refine ⟨_, rfl, ?_⟩
   have := cOpds_ok ht h1
   simpa using this
 · simp at hc
theorem do_extract {x : Operand} {i : Nat} {a : AOp} (hg : G gen = none) (rel : Rel G I h w) (ht : TR G I ts ρ) (hc : cOp P back n mu (.extract x i) = some a) (hp : prim h base gen ts a = some (v, h')) : Does P G I h w gen slot ρ (.extract x i) v h' := by
 simp only [cOp, Option.map_eq_some_iff] at hc
 obtain ⟨b, h1, rfl⟩ := hc
 have hx := cOpd_ok ht h1
 simp only [prim] at hp
 split at hp
 · rename_i cs heq
   rw [heq] at hx
   simp only [Option.map_eq_some_iff, Prod.mk.injEq] at hp
   obtain ⟨v', hr, rfl, rfl⟩ := hp
   intro _ _ _ _ _
   exact Step.val (s := Instr.extract (ρ x) i) hg rel (extract_ok hx hr)
 · simp at hp
theorem exec_builtin {b : Builtin} {args : Array Operand} {tys : Array TypeId} {ρ : Operand → Value} {dst : Option Nat} {ty : TypeId} {pos : String} {after : Array Edge} {guard : Option (Nat × Bool)} :
   execOp ρ ⟨dst, .call ⟨.builtin b, args, tys⟩, ty, pos, after, guard⟩ = builtin b tys ty (args.map fun | .const _ => true | _ => false) (args.map ρ) := rfl
theorem map1 {ρ : Operand → Value} {x : Operand} : (⟨[x]⟩ : Array Operand).map ρ = #[ρ x] := by simp
theorem map2 {ρ : Operand → Value} {x y : Operand} : (⟨[x, y]⟩ : Array Operand).map ρ = #[ρ x, ρ y] := by simp
theorem do_builtin {b : Builtin} {args : Array Operand} {tys : Array TypeId} {a : AOp} (hg : G gen = none) (rel : Rel G I h w) (ht : TR G I ts ρ) (hc : cBuiltin P b args.toList tys.toList n mu = some a) (hp : prim h base gen ts a = some (v, h')) :
   Does P G I h w gen (base + n) ρ (.call ⟨.builtin b, args, tys⟩) v h' := by
 obtain ⟨args⟩ := args
 obtain ⟨tys⟩ := tys
 simp only at hc
 unfold cBuiltin at hc
 split at hc
 · rename_i x t
   have key : ∀ {l : LenTy} {x1 : AOpd}, cOpd x = some x1 → a = .len l x1 → ((P.underlying t = some .string ∧ l = .str) ∨ (∃ e, P.underlying t = some (.slice e) ∧ l = .sl) ∨ (∃ k e, P.underlying t = some (.map k e) ∧ l = .mp) ∨ (∃ n e, P.underlying t = some (.array n e) ∧ l = .arr n) ∨
     (∃ p n e, P.underlying t = some (.pointer p) ∧ P.underlying p = some (.array n e) ∧ l = .arr n)) → Does P G I h w gen (base + n) ρ (.call ⟨.builtin .len, ⟨[x]⟩, ⟨[t]⟩⟩) v h' := by
     intro l x1 h1 ha hu
     subst ha
     simp only [prim, Option.map_eq_some_iff, Prod.mk.injEq] at hp
     obtain ⟨v', hl, rfl, rfl⟩ := hp
     intro _ ty _ _ _
     rw [exec_builtin, map1]
     exact Step.val (s := Builtin.len_ #[t] ty #[ρ x]) hg rel (len_ok rel (cOpd_ok ht h1) hu hl)
   split at hc
   · rename_i hu
     simp only [Option.map_eq_some_iff] at hc
     obtain ⟨x1, h1, h2⟩ := hc
     exact key h1 h2.symm (.inl ⟨hu, rfl⟩)
   · rename_i e hu
     simp only [Option.map_eq_some_iff] at hc
     obtain ⟨x1, h1, h2⟩ := hc
     exact key h1 h2.symm (.inr (.inl ⟨e, hu, rfl⟩))
   · rename_i k e hu
     simp only [Option.map_eq_some_iff] at hc
     obtain ⟨x1, h1, h2⟩ := hc
     exact key h1 h2.symm (.inr (.inr (.inl ⟨k, e, hu, rfl⟩)))
   · rename_i m e hu
     simp only [Option.map_eq_some_iff] at hc
     obtain ⟨x1, h1, h2⟩ := hc
     exact key h1 h2.symm (.inr (.inr (.inr (.inl ⟨m, e, hu, rfl⟩))))
   · rename_i p hu
     split at hc
     · rename_i m e hu2
       simp only [Option.map_eq_some_iff] at hc
       obtain ⟨x1, h1, h2⟩ := hc
       exact key h1 h2.symm (.inr (.inr (.inr (.inr ⟨p, m, e, hu, hu2, rfl⟩))))
     · simp at hc
   · simp at hc
 · rename_i x t
   split at hc
   · rename_i e hu
     simp only [Option.map_eq_some_iff] at hc
     obtain ⟨x1, h1, rfl⟩ := hc
     simp only [prim, Option.map_eq_some_iff, Prod.mk.injEq] at hp
     obtain ⟨v', hl, rfl, rfl⟩ := hp
     intro _ ty _ _ _
     rw [exec_builtin, map1]
     exact Step.val (s := Builtin.cap_ #[t] ty #[ρ x]) hg rel (cap_ok (cOpd_ok ht h1) hu hl)
   · simp at hc
 · rename_i x y t u
   split at hc
   · rename_i k x1 y1 _ h1 h2
     simp at hc
     subst hc
     have hx := cOpd_ok ht h1
     have hy := cOpd_ok ht h2
     simp only [prim] at hp
     split at hp
     · rename_i k1 i k2 j heq1 heq2
       rw [heq1] at hx
       rw [heq2] at hy
       simp only [VR] at hx hy
       simp only [Option.some.injEq, Prod.mk.injEq] at hp
       obtain ⟨rfl, rfl⟩ := hp
       intro _ ty _ _ _
       rw [exec_builtin, map2, hx, hy]
       have := minmax_ok (P := P) (w := w) (mx := true) (k := k1) (j := k2) (a := i) (b := j) (tys := #[t, u]) (ty := ty)
       exact Step.val (s := Builtin.max_ #[t, u] ty #[.int k1 i, .int k2 j]) hg rel ⟨_, this, by simp [VR]⟩
     · simp at hp
   · simp at hc
 · rename_i x y t u
   split at hc
   · rename_i k x1 y1 _ h1 h2
     simp at hc
     subst hc
     have hx := cOpd_ok ht h1
     have hy := cOpd_ok ht h2
     simp only [prim] at hp
     split at hp
     · rename_i k1 i k2 j heq1 heq2
       rw [heq1] at hx
       rw [heq2] at hy
       simp only [VR] at hx hy
       simp only [Option.some.injEq, Prod.mk.injEq] at hp
       obtain ⟨rfl, rfl⟩ := hp
       intro _ ty _ _ _
       rw [exec_builtin, map2, hx, hy]
       have := minmax_ok (P := P) (w := w) (mx := false) (k := k1) (j := k2) (a := i) (b := j) (tys := #[t, u]) (ty := ty)
       exact Step.val (s := Builtin.min_ #[t, u] ty #[.int k1 i, .int k2 j]) hg rel ⟨_, this, by simp [VR]⟩
     · simp at hp
   · simp at hc
 · rename_i x y t u
   have key : ∀ {e : TypeId}, P.underlying t = some (.slice e) → ((∃ e', P.underlying u = some (.slice e')) ∨ P.underlying u = some .string) →
       (match sizeP P e, bytesP P e, zeroP P e, cOpd x, cOpd y with
         | some sz, some by_, some z, some a, some b => if sz ≠ 0 ∧ z.cells.length = sz then some (AOp.append n sz by_ mu a b) else none
         | _, _, _, _, _ => none) = some a → Does P G I h w gen (base + n) ρ (.call ⟨.builtin .append, ⟨[x, y]⟩, ⟨[t, u]⟩⟩) v h' := by
     intro e hu hk hc
     split at hc
     · rename_i sz by_ z x1 y1 hs hb hz h1 h2
       split at hc
       · rename_i hcond
         simp at hc
         subst hc
         simp only [prim] at hp
         intro _ ty _ _ _
         rw [exec_builtin, map2]
         exact append_step (P := P) (t := t) (tx := u) (ty := ty) (e := e) ⟨hu, hk, hs, hb, hz, hcond.2, by have := hcond.1; omega⟩ hg rel (cOpd_ok ht h1) (cOpd_ok ht h2) hp rfl
       · simp at hc
     · simp at hc
   split at hc
   · rename_i e _ hu hu2
     exact key hu (.inl ⟨_, hu2⟩) hc
   · rename_i e hu hu2
     exact key hu (.inr hu2) hc
   · rename_i e k hu hu2
     split at hc
     · rename_i sz by_ z x1 y1 hs hb hz h1 h2
       split at hc
       · rename_i hcond
         simp at hc
         subst hc
         have hx := cOpd_ok ht h1
         have hy := cOpd_ok ht h2
         simp only [prim] at hp
         split at hp
         · rename_i j m heq1 heq2
           rw [heq1] at hx
           rw [heq2] at hy
           simp only [VR] at hx hy
           obtain ⟨A, n', c, hx, hn', _, htip, _⟩ := hx
           simp only [TipR] at htip
           obtain ⟨rfl, _, rfl⟩ := htip
           simp only [List.length_nil] at hn'
           subst hn'
           intro _ ty _ _ _
           rw [exec_builtin, map2, hx, hy]
           split at hp
           · rename_i hm
             simp only [Option.some.injEq, Prod.mk.injEq] at hp
             obtain ⟨rfl, rfl⟩ := hp
             subst hm
             refine Step.val (s := Builtin.append_ #[t, u] ty #[.slice none 0 0, .int j 0]) hg rel ⟨.slice none 0 0, ?_, ?_⟩
             · obtain ⟨ti, zv, hi, hzv, _⟩ := zeroP_ok (G := G) (I := I) hz
               have hw0 : IntKind.i64.wrap 0 = 0 := IntWalk.i64_in _ (by omega)
               simp [Builtin.append_, run_underlying hu, run_underlying hu2, sizeOf, typeInfo, hi, asInt, asIntOf, hw0]
             · simp only [VR]
               exact ⟨none, 0, 0, rfl, rfl, Nat.le_refl _, ⟨rfl, rfl, rfl⟩, .inl rfl⟩
           · split at hp
             · rename_i hm
               simp only [Option.some.injEq, Prod.mk.injEq] at hp
               obtain ⟨rfl, rfl⟩ := hp
               obtain ⟨hm0, hroom, hzd⟩ := hm
               obtain ⟨q, rfl⟩ : ∃ q : Nat, m = q := ⟨m.toNat, by omega⟩
               rw [Int.toNat_natCast]
               exact app_zero_ob (t := t) (tx := u) (ty := ty) (j := j) hu hu2 hs hb hz hcond.2 hzd (by have := hcond.1; omega) hg rel (by omega) (by
                 have : ((q * (by_ + 1) : Nat) : Int) ≤ (roomBound : Int) := by
                   rw [Int.natCast_mul]
                   exact hroom
                 omega) rfl
             · simp at hp
         · simp at hp
       · simp at hc
     · simp at hc
   · simp at hc
 · simp at hc
def AOp.plain : AOp → Bool
 | .call .. | .callv .. | .backward .. => false
 | _ => true
theorem prim_ok {op : Op} {a : AOp} (hg : G gen = none) (rel : Rel G I h w) (ht : TR G I ts ρ) (hc : cOp P back n mu op = some a) (hpl : a.plain = true) (hp : prim h base gen ts a = some (v, h')) : Does P G I h w gen (base + n) ρ op v h' := by
 cases op with
 | move x => exact (do_move hg rel ht (by simpa only [cOp] using hc) hp).1
 | assign x => exact (do_move hg rel ht (by simpa only [cOp] using hc) hp).2
 | pick c x y => exact do_pick hg rel ht hc hp
 | alloc t => exact do_alloc hg rel hc hp
 | box t x => exact do_box hg rel ht hc hp
 | build t ps => exact do_build hg rel ht hc hp
 | buildSlice t m ps => exact do_buildSlice hg rel ht hc hp
 | load t x => exact do_load hg rel ht hc hp
 | store t x y => exact do_store hg rel ht hc hp
 | nilCheck x => exact do_nilCheck hg rel ht hc hp
 | binOp op t x y yt => exact do_binOp hg rel ht hc hp
 | unOp op t x => exact do_unOp hg rel ht hc hp
 | convert s d x => exact do_convert hg rel ht hc hp
 | makeFunc f a b => exact do_makeFunc hg rel ht hc hp
 | makeMap t r => exact do_makeMap hg rel hc hp
 | makeSlice t l c => exact do_makeSlice hg rel ht hc hp
 | slice t x lo hi mx => exact do_slice hg rel ht hc hp
 | fieldAddr t x f => exact do_fieldAddr hg rel ht hc hp
 | field t x f => exact do_field hg rel ht hc hp
 | indexAddr t x ix => exact do_indexAddr hg rel ht hc hp
 | index t x ix => exact do_index hg rel ht hc hp
 | lookup t x ix ok => exact do_lookup hg rel ht hc hp
 | mapUpdate t m k x => exact do_mapUpdate hg rel ht hc hp
 | extract x i => exact do_extract hg rel ht hc hp
 | call c =>
   obtain ⟨callee, args, tys⟩ := c
   cases callee with
   | builtin b => exact do_builtin hg rel ht (by simpa only [cOp] using hc) hp
   | invoke r m => simp [cOp] at hc
   | value f =>
     cases f with
     | tmp t =>
       simp only [cOp, Option.map_eq_some_iff] at hc
       obtain ⟨xs, _, rfl⟩ := hc
       simp [AOp.plain] at hpl
     | func f =>
       simp only [cOp] at hc
       split at hc
       · split at hc
         · simp only [Option.map_eq_some_iff] at hc
           obtain ⟨xs, _, rfl⟩ := hc
           simp [AOp.plain] at hpl
         · simp at hc
       · simp only [Option.map_eq_some_iff] at hc
         obtain ⟨xs, _, rfl⟩ := hc
         simp [AOp.plain] at hpl
     | const v => simp [cOp] at hc
     | global g => simp [cOp] at hc
 | _ => simp [cOp] at hc
end
section
def Keeps (G G' : Ghost) (n : Nat) : Prop := ∀ g i, G g = some i → i.slot < n → G' g = some i
theorem mem_idsL {v : AV} : ∀ {vs : List AV}, v ∈ vs → ∀ s ∈ v.ids, s ∈ idsL vs
 | [], hv, _, _ => by simp at hv
 | x :: xs, hv, s, hs => by
   simp only [idsL, List.mem_append]
   rcases List.mem_cons.1 hv with rfl | hv
   · exact .inl hs
   · exact .inr (mem_idsL hv s hs)
mutual
theorem VR.keep {G G' : Ghost} {I : Imm} {n : Nat} (hk : Keeps G G' n) : ∀ {x : AV} {v : Value}, (∀ s ∈ x.ids, s < n) → VR G I x v → VR G' I x v
 | .undef, _, _, _ => by simp [VR]
 | .int .., _, _, h => by simpa [VR] using h
 | .bool _, _, _, h => by simpa [VR] using h
 | .str _, _, _, h => by simpa only [VR] using h
 | .agg _, _, hi, h => by
   simp only [VR] at h ⊢
   obtain ⟨vs, rfl, h⟩ := h
   exact ⟨vs, rfl, VRL.keep hk (by simpa only [AV.ids] using hi) h⟩
 | .tup _, _, hi, h => by
   simp only [VR] at h ⊢
   obtain ⟨vs, rfl, h⟩ := h
   exact ⟨vs, rfl, VRL.keep hk (by simpa only [AV.ids] using hi) h⟩
 | .sl xs t, _, hi, h => by
   simp only [VR] at h ⊢
   obtain ⟨A, m, c, rfl, h1, h2, h3, h4⟩ := h
   refine ⟨A, m, c, rfl, h1, h2, ?_, ?_⟩
   · cases t with
     | «at» s g =>
       obtain ⟨i, g1, g2, g3⟩ := h3
       exact ⟨i, hk g i g1 (by rw [g2]; exact hi s (by simp [AV.ids])), g2, g3⟩
     | no => exact h3
     | full => exact h3
     | nil => exact h3
     | nn => exact h3
   · rcases h4 with h4 | ⟨b, o, e, h5, h6, h7⟩
     · exact .inl h4
     · exact .inr ⟨b, o, e, h5, h6, RowI.keep hk (fun s hs => hi s (by simp only [AV.ids, List.mem_append]; exact .inr hs)) h7⟩
 | .ob s .., _, hi, h => by
   simp only [VR] at h ⊢
   obtain ⟨i, A, c, h1, h2, h3⟩ := h
   exact ⟨i, A, c, hk _ i h1 (by rw [h2]; exact hi s (by simp [AV.ids])), h2, h3⟩
 | .ptr s .., _, hi, h => by
   simp only [VR] at h ⊢
   obtain ⟨i, h1, h2, h3⟩ := h
   exact ⟨i, hk _ i h1 (by rw [h2]; exact hi s (by simp [AV.ids])), h2, h3⟩
 | .iptr _ _, _, hi, h => by
   simp only [VR] at h ⊢
   obtain ⟨b, p, rfl, h⟩ := h
   exact ⟨b, p, rfl, CellsI.keep hk (by simpa only [AV.ids] using hi) h⟩
 | .nilptr, _, _, h => by simpa [VR] using h
 | .mp s _, _, hi, h => by
   simp only [VR] at h ⊢
   obtain ⟨i, h1, h2, h3⟩ := h
   exact ⟨i, hk _ i h1 (by rw [h2]; exact hi s (by simp [AV.ids])), h2, h3⟩
 | .nilmap, _, _, h => by simpa [VR] using h
 | .fn _ _, _, hi, h => by
   simp only [VR] at h ⊢
   obtain ⟨vs, rfl, h⟩ := h
   exact ⟨vs, rfl, VRL.keep hk (by simpa only [AV.ids] using hi) h⟩
 | .nilfn, _, _, h => by simpa [VR] using h
 | .nilif, _, _, h => by simpa [VR] using h
 | .bwd _ _, _, hi, h => by
   simp only [VR] at h ⊢
   obtain ⟨b, y, rfl, h1, h2⟩ := h
   exact ⟨b, y, rfl, h1, VR.keep hk (by simpa only [AV.ids] using hi) h2⟩
theorem VRL.keep {G G' : Ghost} {I : Imm} {n : Nat} (hk : Keeps G G' n) : ∀ {xs : List AV} {vs : List Value}, (∀ s ∈ idsL xs, s < n) → VRL G I xs vs → VRL G' I xs vs
 | [], _, _, h => by simpa [VRL] using h
 | _ :: _, _, hi, h => by
   simp only [VRL] at h ⊢
   obtain ⟨v, ws, rfl, h1, h2⟩ := h
   exact ⟨v, ws, rfl, VR.keep hk (fun s hs => hi s (by simp only [idsL, List.mem_append]; exact .inl hs)) h1, VRL.keep hk (fun s hs => hi s (by simp only [idsL, List.mem_append]; exact .inr hs)) h2⟩
theorem RowI.keep {G G' : Ghost} {I : Imm} {n : Nat} (hk : Keeps G G' n) : ∀ {xs : List AV} {b o e : Nat}, (∀ s ∈ idsL xs, s < n) → RowI G I xs b o e → RowI G' I xs b o e
 | [], _, _, _, _, _ => RowI_nil
 | .agg _ :: _, _, _, _, hi, h => by
   simp only [RowI] at h ⊢
   exact ⟨h.1, CellsI.keep hk (fun s hs => hi s (by simp only [idsL, AV.ids, List.mem_append]; exact .inl hs)) h.2.1, RowI.keep hk (fun s hs => hi s (by simp only [idsL, List.mem_append]; exact .inr hs)) h.2.2⟩
 | .undef :: _, _, _, _, hi, h => by
   simp only [RowI] at h ⊢
   obtain ⟨h1, ⟨v, h2, h3⟩, h4⟩ := h
   exact ⟨h1, ⟨v, h2, VR.keep hk (fun s hs => hi s (by simp only [idsL, List.mem_append]; exact .inl hs)) h3⟩, RowI.keep hk (fun s hs => hi s (by simp only [idsL, List.mem_append]; exact .inr hs)) h4⟩
 | .int .. :: _, _, _, _, hi, h => by
   simp only [RowI] at h ⊢
   obtain ⟨h1, ⟨v, h2, h3⟩, h4⟩ := h
   exact ⟨h1, ⟨v, h2, VR.keep hk (fun s hs => hi s (by simp only [idsL, List.mem_append]; exact .inl hs)) h3⟩, RowI.keep hk (fun s hs => hi s (by simp only [idsL, List.mem_append]; exact .inr hs)) h4⟩
 | .bool _ :: _, _, _, _, hi, h => by
   simp only [RowI] at h ⊢
   obtain ⟨h1, ⟨v, h2, h3⟩, h4⟩ := h
   exact ⟨h1, ⟨v, h2, VR.keep hk (fun s hs => hi s (by simp only [idsL, List.mem_append]; exact .inl hs)) h3⟩, RowI.keep hk (fun s hs => hi s (by simp only [idsL, List.mem_append]; exact .inr hs)) h4⟩
 | .str _ :: _, _, _, _, hi, h => by
   simp only [RowI] at h ⊢
   obtain ⟨h1, ⟨v, h2, h3⟩, h4⟩ := h
   exact ⟨h1, ⟨v, h2, VR.keep hk (fun s hs => hi s (by simp only [idsL, List.mem_append]; exact .inl hs)) h3⟩, RowI.keep hk (fun s hs => hi s (by simp only [idsL, List.mem_append]; exact .inr hs)) h4⟩
 | .tup _ :: _, _, _, _, hi, h => by
   simp only [RowI] at h ⊢
   obtain ⟨h1, ⟨v, h2, h3⟩, h4⟩ := h
   exact ⟨h1, ⟨v, h2, VR.keep hk (fun s hs => hi s (by simp only [idsL, List.mem_append]; exact .inl hs)) h3⟩, RowI.keep hk (fun s hs => hi s (by simp only [idsL, List.mem_append]; exact .inr hs)) h4⟩
 | .sl _ _ :: _, _, _, _, hi, h => by
   simp only [RowI] at h ⊢
   obtain ⟨h1, ⟨v, h2, h3⟩, h4⟩ := h
   exact ⟨h1, ⟨v, h2, VR.keep hk (fun s hs => hi s (by simp only [idsL, List.mem_append]; exact .inl hs)) h3⟩, RowI.keep hk (fun s hs => hi s (by simp only [idsL, List.mem_append]; exact .inr hs)) h4⟩
 | .ob .. :: _, _, _, _, hi, h => by
   simp only [RowI] at h ⊢
   obtain ⟨h1, ⟨v, h2, h3⟩, h4⟩ := h
   exact ⟨h1, ⟨v, h2, VR.keep hk (fun s hs => hi s (by simp only [idsL, List.mem_append]; exact .inl hs)) h3⟩, RowI.keep hk (fun s hs => hi s (by simp only [idsL, List.mem_append]; exact .inr hs)) h4⟩
 | .ptr .. :: _, _, _, _, hi, h => by
   simp only [RowI] at h ⊢
   obtain ⟨h1, ⟨v, h2, h3⟩, h4⟩ := h
   exact ⟨h1, ⟨v, h2, VR.keep hk (fun s hs => hi s (by simp only [idsL, List.mem_append]; exact .inl hs)) h3⟩, RowI.keep hk (fun s hs => hi s (by simp only [idsL, List.mem_append]; exact .inr hs)) h4⟩
 | .iptr _ _ :: _, _, _, _, hi, h => by
   simp only [RowI] at h ⊢
   obtain ⟨h1, ⟨v, h2, h3⟩, h4⟩ := h
   exact ⟨h1, ⟨v, h2, VR.keep hk (fun s hs => hi s (by simp only [idsL, List.mem_append]; exact .inl hs)) h3⟩, RowI.keep hk (fun s hs => hi s (by simp only [idsL, List.mem_append]; exact .inr hs)) h4⟩
 | .nilptr :: _, _, _, _, hi, h => by
   simp only [RowI] at h ⊢
   obtain ⟨h1, ⟨v, h2, h3⟩, h4⟩ := h
   exact ⟨h1, ⟨v, h2, VR.keep hk (fun s hs => hi s (by simp only [idsL, List.mem_append]; exact .inl hs)) h3⟩, RowI.keep hk (fun s hs => hi s (by simp only [idsL, List.mem_append]; exact .inr hs)) h4⟩
 | .mp .. :: _, _, _, _, hi, h => by
   simp only [RowI] at h ⊢
   obtain ⟨h1, ⟨v, h2, h3⟩, h4⟩ := h
   exact ⟨h1, ⟨v, h2, VR.keep hk (fun s hs => hi s (by simp only [idsL, List.mem_append]; exact .inl hs)) h3⟩, RowI.keep hk (fun s hs => hi s (by simp only [idsL, List.mem_append]; exact .inr hs)) h4⟩
 | .nilmap :: _, _, _, _, hi, h => by
   simp only [RowI] at h ⊢
   obtain ⟨h1, ⟨v, h2, h3⟩, h4⟩ := h
   exact ⟨h1, ⟨v, h2, VR.keep hk (fun s hs => hi s (by simp only [idsL, List.mem_append]; exact .inl hs)) h3⟩, RowI.keep hk (fun s hs => hi s (by simp only [idsL, List.mem_append]; exact .inr hs)) h4⟩
 | .fn _ _ :: _, _, _, _, hi, h => by
   simp only [RowI] at h ⊢
   obtain ⟨h1, ⟨v, h2, h3⟩, h4⟩ := h
   exact ⟨h1, ⟨v, h2, VR.keep hk (fun s hs => hi s (by simp only [idsL, List.mem_append]; exact .inl hs)) h3⟩, RowI.keep hk (fun s hs => hi s (by simp only [idsL, List.mem_append]; exact .inr hs)) h4⟩
 | .nilfn :: _, _, _, _, hi, h => by
   simp only [RowI] at h ⊢
   obtain ⟨h1, ⟨v, h2, h3⟩, h4⟩ := h
   exact ⟨h1, ⟨v, h2, VR.keep hk (fun s hs => hi s (by simp only [idsL, List.mem_append]; exact .inl hs)) h3⟩, RowI.keep hk (fun s hs => hi s (by simp only [idsL, List.mem_append]; exact .inr hs)) h4⟩
 | .nilif :: _, _, _, _, hi, h => by
   simp only [RowI] at h ⊢
   obtain ⟨h1, ⟨v, h2, h3⟩, h4⟩ := h
   exact ⟨h1, ⟨v, h2, VR.keep hk (fun s hs => hi s (by simp only [idsL, List.mem_append]; exact .inl hs)) h3⟩, RowI.keep hk (fun s hs => hi s (by simp only [idsL, List.mem_append]; exact .inr hs)) h4⟩
 | .bwd _ _ :: _, _, _, _, hi, h => by
   simp only [RowI] at h ⊢
   obtain ⟨h1, ⟨v, h2, h3⟩, h4⟩ := h
   exact ⟨h1, ⟨v, h2, VR.keep hk (fun s hs => hi s (by simp only [idsL, List.mem_append]; exact .inl hs)) h3⟩, RowI.keep hk (fun s hs => hi s (by simp only [idsL, List.mem_append]; exact .inr hs)) h4⟩
theorem CellsI.keep {G G' : Ghost} {I : Imm} {n : Nat} (hk : Keeps G G' n) : ∀ {cs : List AV} {b o : Nat}, (∀ s ∈ idsL cs, s < n) → CellsI G I cs b o → CellsI G' I cs b o
 | [], _, _, _, _ => CellsI_nil
 | _ :: _, _, _, hi, h => by
   simp only [CellsI] at h ⊢
   obtain ⟨⟨v, h1, h2⟩, h3⟩ := h
   exact ⟨⟨v, h1, VR.keep hk (fun s hs => hi s (by simp only [idsL, List.mem_append]; exact .inl hs)) h2⟩, CellsI.keep hk (fun s hs => hi s (by simp only [idsL, List.mem_append]; exact .inr hs)) h3⟩
end
mutual
theorem VR.flat {G G' : Ghost} {I I' : Imm} : ∀ {x : AV} {v : Value}, x.flat = true → VR G I x v → VR G' I' x v
 | .undef, _, _, _ => by simp [VR]
 | .int .., _, _, h => by simpa [VR] using h
 | .bool _, _, _, h => by simpa [VR] using h
 | .str _, _, _, h => by simpa only [VR] using h
 | .agg _, _, hi, h => by
   simp only [VR] at h ⊢
   obtain ⟨vs, rfl, h⟩ := h
   exact ⟨vs, rfl, VRL.flat (by simpa only [AV.flat] using hi) h⟩
 | .tup _, _, hi, h => by
   simp only [VR] at h ⊢
   obtain ⟨vs, rfl, h⟩ := h
   exact ⟨vs, rfl, VRL.flat (by simpa only [AV.flat] using hi) h⟩
 | .sl _ _, _, hi, _ => by simp [AV.flat] at hi
 | .ob .., _, hi, _ => by simp [AV.flat] at hi
 | .ptr .., _, hi, _ => by simp [AV.flat] at hi
 | .iptr _ _, _, hi, _ => by simp [AV.flat] at hi
 | .nilptr, _, hi, _ => by simp [AV.flat] at hi
 | .mp .., _, hi, _ => by simp [AV.flat] at hi
 | .nilmap, _, hi, _ => by simp [AV.flat] at hi
 | .fn _ _, _, hi, _ => by simp [AV.flat] at hi
 | .nilfn, _, hi, _ => by simp [AV.flat] at hi
 | .nilif, _, hi, _ => by simp [AV.flat] at hi
 | .bwd _ _, _, hi, _ => by simp [AV.flat] at hi
theorem VRL.flat {G G' : Ghost} {I I' : Imm} : ∀ {xs : List AV} {vs : List Value}, flatL xs = true → VRL G I xs vs → VRL G' I' xs vs
 | [], _, _, h => by simpa [VRL] using h
 | _ :: _, _, hi, h => by
   simp only [flatL, Bool.and_eq_true] at hi
   simp only [VRL] at h ⊢
   obtain ⟨v, ws, rfl, h1, h2⟩ := h
   exact ⟨v, ws, rfl, VR.flat hi.1 h1, VRL.flat hi.2 h2⟩
end
section
variable {P : Program} {G : Ghost} {I : Imm} {h : List AObj} {w : World}
theorem mem_cells_ids {x : AV} {s : Nat} {c : AV} (hc : c ∈ x.cells) (hs : s ∈ c.ids) : s ∈ x.ids := by
 by_cases ha : ∃ cs, x = .agg cs
 · obtain ⟨cs, rfl⟩ := ha
   simp only [AV.cells] at hc
   simp only [AV.ids]
   exact mem_idsL hc s hs
 · rw [cells_nonagg fun cs e => ha ⟨cs, e⟩] at hc
   simp at hc
   subst hc
   exact hs
theorem ObjR.keep {G' : Ghost} {n s : Nat} {o : AObj} (hk : Keeps G G' n) (hs : s < n) (hi : ∀ k ∈ o.ids, k < n) (ho : ObjR G I w s o) : ObjR G' I w s o := by
 cases o with
 | dead => trivial
 | blk g es row grow fz =>
   obtain ⟨i, cs, t, h1, h2, h3, h4, h5, h6, h7, h8, h9, h10⟩ := ho
   refine ⟨i, cs, t, hk g i h1 (by omega), h2, h3, h4, h5, h6, h7, h8, fun k x hx => ⟨(h9 k x hx).1, fun j c hj => ?_⟩, h10⟩
   obtain ⟨v, hv, hr⟩ := (h9 k x hx).2 j c hj
   exact ⟨v, hv, VR.keep hk (fun q hq => hi q (by simp only [AObj.ids]; exact mem_idsL (List.mem_of_getElem? hx) q (mem_cells_ids (List.mem_of_getElem? hj) hq))) hr⟩
 | tip g e =>
   obtain ⟨i, h1, h2, h3⟩ := ho
   exact ⟨i, hk g i h1 (by omega), h2, h3⟩
 | map g es =>
   obtain ⟨i, ents, clk, h1, h2, h3, h4⟩ := ho
   refine ⟨i, ents, clk, hk g i h1 (by omega), h2, h3, ?_⟩
   obtain ⟨hl, hg⟩ := MapR_get h4
   refine MapR_of hl fun j x e hx he => ?_
   obtain ⟨e', he', hr1, hr2⟩ := hg j x hx
   rw [he] at he'
   simp at he'
   subst he'
   have hm := List.mem_of_getElem? hx
   refine ⟨VR.keep hk (fun q hq => hi q ?_) hr1, VR.keep hk (fun q hq => hi q ?_) hr2⟩
   · simp only [AObj.ids, List.mem_append]
     exact .inl (mem_idsL (List.mem_map.2 ⟨x, hm, rfl⟩) q hq)
   · simp only [AObj.ids, List.mem_append]
     exact .inr (mem_idsL (List.mem_map.2 ⟨x, hm, rfl⟩) q hq)
structure Ran (base clk : Nat) (G : Ghost) (I : Imm) (h : List AObj) (w : World) (G' : Ghost) (I' : Imm) (h' : List AObj) (w' : World) : Prop where
 rel : Rel G' I' h' w'
 gle : GLe G G'
 ile : ILe I I'
 slots : ∀ g i, G' g = some i → G g = none → clk ≤ g ∧ base ≤ i.slot
 own : OwnLe G h w G' h'
 fr : Fr G h w w'
 ifr : IFr G h w I I'
theorem Ran.refl {base clk : Nat} (rel : Rel G I h w) : Ran base clk G I h w G I h w :=
 ⟨rel, GLe.refl _, ILe.refl _, fun g i h1 h2 => by simp [h1] at h2, OwnLe.refl _ _ _, Fr.refl _ _ _, IFr.refl⟩
theorem Ran.trans {base base' clk clk' : Nat} {G' G'' : Ghost} {I' I'' : Imm} {h' h'' : List AObj} {w' w'' : World} (a : Ran base clk G I h w G' I' h' w') (b : Ran base' clk' G' I' h' w' G'' I'' h'' w'') (hb : base ≤ base') (hc : clk ≤ clk') :
   Ran base clk G I h w G'' I'' h'' w'' :=
 ⟨b.rel, a.gle.trans b.gle, a.ile.trans b.ile, fun g i h1 h2 => by
   cases hg : G' g with
   | none =>
     have := b.slots g i h1 hg
     omega
   | some j =>
     have h3 := b.gle g j hg
     rw [h1] at h3
     simp at h3
     subst h3
     exact a.slots g i hg h2,
   a.own.trans a.fr.size b.own, a.fr.trans a.own b.fr, a.ifr.trans a.own a.fr.size b.ifr⟩
theorem Rel.part {h' : List AObj} (rel : Rel G I h w) (hs : ∀ (i : Nat) o, h'[i]? = some o → o = .dead ∨ h[i]? = some o) : Rel G I h' w := by
 refine ⟨rel.imm, fun i o ho => ?_, fun i j oi oj b hi hj h1 h2 => ?_⟩
 · rcases hs i o ho with rfl | ho
   · trivial
   · exact rel.obj i o ho
 · rcases hs i oi hi with rfl | hi
   · simp [Am.own] at h1
   · rcases hs j oj hj with rfl | hj
     · simp [Am.own] at h2
     · exact rel.inj i j oi oj b hi hj h1 h2
theorem maskFrom_get {T : List Nat} : ∀ {h : List AObj} {k i : Nat}, (maskFrom T k h)[i]? = (h[i]?).map fun o => if T.contains (k + i) then o else .dead
 | [], k, i => by simp [maskFrom]
 | o :: h, k, i => by
   cases i with
   | zero => simp [maskFrom]
   | succ i =>
     simp only [maskFrom, List.getElem?_cons_succ, maskFrom_get]
     rw [show k + 1 + i = k + (i + 1) by omega]
theorem maskFrom_length {T : List Nat} : ∀ {h : List AObj} {k : Nat}, (maskFrom T k h).length = h.length
 | [], _ => rfl
 | o :: h, k => by simp [maskFrom, maskFrom_length]
theorem mergeFrom_get {T : List Nat} : ∀ {h h' : List AObj} {k i : Nat}, h.length ≤ h'.length → i < h.length → (mergeFrom T k h h')[i]? = if T.contains (k + i) then h'[i]? else h[i]?
 | [], _, _, _, _, hi => by simp at hi
 | o :: h, [], _, _, hl, _ => by simp at hl
 | o :: h, o' :: h', k, i, hl, hi => by
   cases i with
   | zero =>
     simp only [mergeFrom, List.getElem?_cons_zero, Nat.add_zero]
     split <;> rfl
   | succ i =>
     simp only [mergeFrom, List.getElem?_cons_succ]
     rw [mergeFrom_get (by simpa using hl) (by simpa using hi), show k + 1 + i = k + (i + 1) by omega]
theorem mergeFrom_length {T : List Nat} : ∀ {h h' : List AObj} {k : Nat}, h.length ≤ h'.length → (mergeFrom T k h h').length = h.length
 | [], [], _, _ => rfl
 | [], _ :: _, _, _ => rfl
 | o :: h, [], _, hl => by simp at hl
 | o :: h, o' :: h', k, hl => by simp [mergeFrom, mergeFrom_length (show h.length ≤ h'.length by simpa using hl)]
theorem passArgs_ok {byref : List Nat} : ∀ {vs vs' : List AV} {cvs : List Value} {k : Nat} {G : Ghost} {I : Imm} {h h1 : List AObj} {w : World}, passArgs h byref k vs = some vs' → VRL G I vs cvs → Frozen h h1 → Rel G I h1 w →
   ∃ I', ILe I I' ∧ Rel G I' (freezeAll h1 (lentSlots byref k vs)) w ∧ VRL G I' vs' cvs ∧ NoNew G h1 I I'
 | [], _, _, _, G, I, h, h1, w, hc, hv, hf, rel => by
   simp only [passArgs, Option.some.injEq] at hc
   subst hc
   exact ⟨I, ILe.refl _, by simpa only [lentSlots, freezeAll] using rel, hv, NoNew.refl⟩
 | v :: vs, _, _, k, G, I, h, h1, w, hc, hv, hf, rel => by
   simp only [passArgs] at hc
   split at hc
   · rename_i a b ha hb
     simp at hc
     subst hc
     simp only [VRL] at hv
     obtain ⟨cv, cvs, rfl, hv1, hv2⟩ := hv
     by_cases hr : byref.contains k = true
     · simp only [hr, if_true, Option.some.injEq] at ha
       subst ha
       obtain ⟨I2, hI2, r2, hxs, hn2⟩ := passArgs_ok hb hv2 hf rel
       refine ⟨I2, hI2, ?_, ?_, hn2⟩
       · simp only [lentSlots, hr, if_true, List.nil_append]
         exact r2
       · simp only [VRL]
         exact ⟨cv, cvs, rfl, VR.mono (GLe.refl _) hI2 hv1, hxs⟩
     · have hr : byref.contains k = false := by simpa using hr
       simp only [hr, Bool.false_eq_true, if_false] at ha
       obtain ⟨I1, hI1, r1, hx, hn1⟩ := conv_ok ha hv1 hf rel
       obtain ⟨I2, hI2, r2, hxs, hn2⟩ := passArgs_ok hb (VRL.mono (GLe.refl _) hI1 hv2) (hf.trans (frozen_freezeAll _ _)) r1
       refine ⟨I2, hI1.trans hI2, ?_, ?_, fun b hb o v hv => hn1 b hb o v (hn2 b (fun i x hi hx => by
         obtain ⟨o', h2, h3⟩ := frozen_own (frozen_freezeAll _ _) hi hx
         exact hb i o' h2 h3) o v hv)⟩
       · simp only [lentSlots, hr, Bool.false_eq_true, if_false, freezeAll_append]
         exact r2
       · simp only [VRL]
         exact ⟨cv, cvs, rfl, VR.mono (GLe.refl _) hI2 hx, hxs⟩
   · simp at hc
end
end
end Go.Proofs.YtbeooboebfbchaaGreatDoor.Am
