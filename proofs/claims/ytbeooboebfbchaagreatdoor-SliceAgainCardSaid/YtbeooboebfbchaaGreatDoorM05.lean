/- One operation of the abstract machine stands for one operation of the model: binary and unary operators, conversions, slices of strings and rows. One operation of the abstract machine stands for one operation of the model: slice expressions, lengths, conversions, elements. One operation of the abstract machine stands for one operation of the model: places, elements, conversions, constants. -/
import Derived.Laws.IdiomStrings
import Derived.Test.YtbeooboebfbchaaGreatDoorM04
set_option linter.unusedVariables false
set_option linter.unusedSimpArgs false
namespace Go.Proofs.YtbeooboebfbchaaGreatDoor.Am
open Go
set_option maxRecDepth 100000
section
variable {P : Program} {G : Ghost} {I : Imm} {h : List AObj} {w : World} {gen slot : Nat}
theorem eTy_cases {t : TypeId} {e : ETy} (he : eTy P t = some e) : kTy P t = some e ∨ (∃ x, P.underlying t = some (.slice x) ∧ e = .sl) ∨ (∃ x, P.underlying t = some (.pointer x) ∧ e = .pt) ∨
   (∃ x y, P.underlying t = some (.map x y) ∧ e = .mp) ∨ (∃ x y z, P.underlying t = some (.func x y z) ∧ e = .fn) := by
 unfold eTy at he
 split at he
 · rename_i e' hk
   simp at he
   subst he
   exact .inl hk
 · split at he <;> simp at he <;> subst he
   · exact .inr (.inl ⟨_, ‹_›, rfl⟩)
   · exact .inr (.inr (.inl ⟨_, ‹_›, rfl⟩))
   · exact .inr (.inr (.inr (.inl ⟨_, _, ‹_›, rfl⟩)))
   · exact .inr (.inr (.inr (.inr ⟨_, _, _, ‹_›, rfl⟩)))
theorem cmp_result {op : BinOp} {e : ETy} {x y v : AV} (hb : (match op with | .eql => (x.eqv e y).map AV.bool | .neq => (x.eqv e y).map fun b => .bool !b | _ => none) = some v) :
   ∃ r, x.eqv e y = some r ∧ (op = .eql ∨ op = .neq) ∧ v = .bool (if op = .eql then r else !r) := by
 cases op <;> simp only [Option.map_eq_some_iff] at hb <;> try (simp at hb; done)
 · obtain ⟨r, h1, rfl⟩ := hb
   exact ⟨r, h1, .inl rfl, by simp⟩
 · obtain ⟨r, h1, rfl⟩ := hb
   exact ⟨r, h1, .inr rfl, by simp⟩
section
variable {t : TypeId} {d : Nat}
theorem eqI_iface {ms : Array (String × TypeId)} (hu : P.underlying t = some (.interface ms)) : (Op.equalIn (d + 1) t .nilIface .nilIface).run P w = .ok true w := by
 simp [Op.equalIn, run_underlying hu]
theorem eqI_sl {x : TypeId} {A B : Option Addr} {n c m e : Nat} (hu : P.underlying t = some (.slice x)) (hn : A = none ∨ B = none) : (Op.equalIn (d + 1) t (.slice A n c) (.slice B m e)).run P w = .ok (A.isNone && B.isNone) w := by
 cases A <;> cases B <;> simp [Op.equalIn, run_underlying hu] at hn ⊢
theorem eqI_pt {x : TypeId} {A B : Option Addr} (hu : P.underlying t = some (.pointer x)) (hn : A = none ∨ B = none) : (Op.equalIn (d + 1) t (.pointer A) (.pointer B)).run P w = .ok (A.isNone && B.isNone) w := by
 cases A <;> cases B <;> simp [Op.equalIn, run_underlying hu] at hn ⊢
theorem eqI_mp {x y : TypeId} {A B : Option Nat} (hu : P.underlying t = some (.map x y)) (hn : A = none ∨ B = none) : (Op.equalIn (d + 1) t (.map A) (.map B)).run P w = .ok (A.isNone && B.isNone) w := by
 cases A <;> cases B <;> simp [Op.equalIn, run_underlying hu] at hn ⊢
theorem eqI_fn0 {x y : Array TypeId} {z : Bool} (hu : P.underlying t = some (.func x y z)) : (Op.equalIn (d + 1) t .nilFunc .nilFunc).run P w = .ok true w := by
 simp [Op.equalIn, run_underlying hu]
theorem eqI_fn1 {x y : Array TypeId} {z : Bool} {f : Fn} {p q : Array Value} (hu : P.underlying t = some (.func x y z)) : (Op.equalIn (d + 1) t .nilFunc (.func f p q)).run P w = .ok false w := by
 simp [Op.equalIn, run_underlying hu]
theorem eqI_fn2 {x y : Array TypeId} {z : Bool} {f : Fn} {p q : Array Value} (hu : P.underlying t = some (.func x y z)) : (Op.equalIn (d + 1) t (.func f p q) .nilFunc).run P w = .ok false w := by
 simp [Op.equalIn, run_underlying hu]
end
theorem guard_plain {op : BinOp} {t : TypeId} {p q : Operand} {a b : Value} (ha : ∀ cs, a ≠ .agg cs) (hn : a ≠ .nilIface) : (eqGuard op t p q a b).run P w = .ok () w := by
 unfold eqGuard
 cases op <;> first
   | rfl
   | (cases a <;> first | rfl | exact absurd rfl (ha _) | exact absurd rfl hn)
theorem nilT_cases {op : BinOp} {t : TypeId} {p q : Operand} (h : nilT P op t p q = true) : (∃ ms, P.underlying t = some (.interface ms)) ∧ ((∃ c, p = .const c) ∨ ∃ c, q = .const c) := by
 unfold nilT at h
 simp only [Bool.and_eq_true] at h
 obtain ⟨⟨_, h2⟩, h3⟩ := h
 constructor
 · cases hu : P.underlying t with
   | none => rw [hu] at h2; simp at h2
   | some d => rw [hu] at h2; cases d <;> simp at h2; exact ⟨_, rfl⟩
 · split at h3
   · exact .inl ⟨_, rfl⟩
   · exact .inr ⟨_, rfl⟩
   · simp at h3
theorem bin_ok {op : BinOp} {t : TypeId} {e : ETy} {p q : Operand} {x y v : AV} {a b : Value} (hc : (nilT P op t p q = true ∧ e = .iface) ∨ eTy P t = some e) (hx : VR G I x a) (hy : VR G I y b) (hb : binVal op e x y = some v) :
   ∃ cv, (do eqGuard op t p q a b; binOp op t a b : Sem Value).run P w = .ok cv w ∧ VR G I v cv := by
 unfold binVal at hb
 split at hb
 · split at hb
   · rename_i k m j n hop
     simp only [VR] at hx hy
     subst hx hy
     unfold shiftVal at hb
     split at hb
     · simp at hb
     · rename_i hn
       rcases hop with rfl | rfl
       · simp only [Option.some.injEq] at hb
         subst hb
         refine ⟨.int k (k.wrap (m * 2 ^ (min n.toNat k.bits))), ?_, by simp only [VR]⟩
         rw [Sem.run_bind, guard_plain (by simp) (by simp)]
         show (Op.shift .shl k m j n).run P w = _
         simp [Op.shift, hn]
       · simp only [Option.some.injEq] at hb
         subst hb
         refine ⟨.int k (m.fdiv (2 ^ (min n.toNat k.bits))), ?_, by simp only [VR]⟩
         rw [Sem.run_bind, guard_plain (by simp) (by simp)]
         show (Op.shift .shr k m j n).run P w = _
         simp [Op.shift, hn]
   split at hb
   · rename_i k m j n _ hk
     subst hk
     simp only [VR] at hx hy
     subst hx hy
     obtain ⟨cv, h1, h2⟩ := binInt_ok (P := P) (G := G) (I := I) (w := w) (t := t) hb
     refine ⟨cv, ?_, h2⟩
     rw [Sem.run_bind, guard_plain (by simp) (by simp)]
     exact h1
   · simp at hb
 · simp only [VR] at hx hy
   obtain ⟨rfl, hx⟩ := hx
   obtain ⟨rfl, hy⟩ := hy
   obtain ⟨cv, h1, h2⟩ := binStr_ok (P := P) (G := G) (I := I) (w := w) (t := t) hx hy hb
   refine ⟨cv, ?_, h2⟩
   rw [Sem.run_bind, guard_plain (by simp) (by simp)]
   exact h1
 · rename_i hni hns
   obtain ⟨r, he, hop, rfl⟩ := cmp_result hb
   have fin : ∀ (hg : (eqGuard op t p q a b).run P w = .ok () w) (h1 : ∀ k n, a ≠ .int k n) (h2 : ∀ s, a ≠ .string s) (h3 : ∀ z, a ≠ .pointer z ∨ ∀ k n, b ≠ .int k n) (h4 : ∀ k m, a ≠ .float k m) (h5 : ∀ k m n, a ≠ .complex k m n)
       (h6 : (Op.equal t a b).run P w = .ok r w), ∃ cv, (do eqGuard op t p q a b; binOp op t a b : Sem Value).run P w = .ok cv w ∧ VR G I (.bool (if op = .eql then r else !r)) cv := by
     intro hg h1 h2 h3 h4 h5 h6
     refine ⟨.bool (if op = .eql then r else !r), ?_, by simp [VR]⟩
     rw [Sem.run_bind, hg]
     exact binOp_eq h1 h2 h3 hop h4 h5 h6
   rcases hc with ⟨hn, rfl⟩ | hc
   · obtain ⟨⟨ms, hu⟩, hcon⟩ := nilT_cases hn
     cases x <;> cases y <;> simp only [AV.eqv] at he <;> try (simp at he; done)
     simp at he
     subst he
     simp only [VR] at hx hy
     subst hx hy
     refine fin ?_ (by simp) (by simp) (by simp) (by simp) (by simp) (eqI_iface (d := 9999) hu)
     rcases hop with rfl | rfl <;> rcases hcon with ⟨c, rfl⟩ | ⟨c, rfl⟩ <;> simp [eqGuard]
   · rcases eTy_cases hc with hk | ⟨z, hu, rfl⟩ | ⟨z, hu, rfl⟩ | ⟨z, z', hu, rfl⟩ | ⟨z, z', z'', hu, rfl⟩
     · refine fin (eqGuard_key hk hx hy he) ?_ ?_ ?_ ?_ ?_ (eqv_key (d := 9998) hk hx hy he)
       all_goals
         rcases kTy_cases hk with ⟨s, _, rfl⟩ | ⟨_, fs, ts, _, _, _, _, rfl⟩
         · simp only [AV.eqv] at he
           cases s <;> cases x <;> cases y <;> simp only [AV.eq1] at he <;> (try (simp at he; done)) <;> first
             | exact absurd rfl (hni _ _ _ _ rfl)
             | exact absurd rfl (hns _ _ rfl)
             | (simp only [VR] at hx hy; subst hx hy; simp)
         · cases x <;> cases y <;> simp only [AV.eqv] at he <;> try (simp at he; done)
           obtain ⟨us, rfl, _⟩ := ArrR.of_agg hx
           obtain ⟨vs, rfl, _⟩ := ArrR.of_agg hy
           simp
     · cases x <;> cases y <;> simp only [AV.eqv] at he <;> try (simp at he; done)
       rename_i xs tx ys ty
       simp only [VR] at hx hy
       obtain ⟨A, n, c, rfl, hl1, hnc, ht1, hr1⟩ := hx
       obtain ⟨B, m, d, rfl, hl2, hmd, ht2, hr2⟩ := hy
       refine fin (guard_plain (by simp) (by simp)) (by simp) (by simp) (by simp) (by simp) (by simp) ?_
       split at he
       · split at he
         · rename_i e1
           subst e1
           simp at he
           subst he
           obtain ⟨rfl, _, _⟩ := ht1
           simp at hl2
           rcases hr2 with h0 | ⟨bb, oo, ee, rfl, _⟩
           · omega
           · exact eqI_sl (d := 9999) hu (by simp)
         · simp at he
       · split at he
         · rename_i e1
           subst e1
           simp at he
           subst he
           obtain ⟨rfl, _, _⟩ := ht2
           simp at hl1
           rcases hr1 with h0 | ⟨bb, oo, ee, rfl, _⟩
           · omega
           · exact eqI_sl (d := 9999) hu (by simp)
         · simp at he
       · split at he
         · rename_i e1
           obtain ⟨rfl, rfl⟩ := e1
           simp at he
           subst he
           obtain ⟨rfl, _, _⟩ := ht1
           obtain ⟨rfl, _, _⟩ := ht2
           exact eqI_sl (d := 9999) hu (by simp)
         · split at he
           · rename_i e1
             obtain ⟨rfl, rfl⟩ := e1
             simp at he
             subst he
             obtain ⟨rfl, _, _⟩ := ht2
             simp only [TipR] at ht1
             cases A with
             | none => exact absurd rfl ht1
             | some A => exact eqI_sl (d := 9999) hu (by simp)
           · simp at he
       · simp at he
     · cases x <;> cases y <;> simp only [AV.eqv] at he <;> try (simp at he; done)
       all_goals
         simp at he
         subst he
         simp only [VR] at hx hy
         first
           | (obtain ⟨_, _, _, rfl⟩ := hx)
           | (obtain ⟨_, _, rfl, _⟩ := hx)
           | subst hx
         first
           | (obtain ⟨_, _, _, rfl⟩ := hy)
           | (obtain ⟨_, _, rfl, _⟩ := hy)
           | subst hy
         refine fin (guard_plain (by simp) (by simp)) (by simp) (by simp) (by simp) (by simp) (by simp) ?_
         exact eqI_pt (d := 9999) hu (by simp)
     · cases x <;> cases y <;> simp only [AV.eqv] at he <;> try (simp at he; done)
       all_goals
         simp at he
         subst he
         simp only [VR] at hx hy
         first
           | (obtain ⟨_, _, _, rfl⟩ := hx)
           | subst hx
         first
           | (obtain ⟨_, _, _, rfl⟩ := hy)
           | subst hy
         refine fin (guard_plain (by simp) (by simp)) (by simp) (by simp) (by simp) (by simp) (by simp) ?_
         exact eqI_mp (d := 9999) hu (by simp)
     · cases x <;> cases y <;> simp only [AV.eqv] at he <;> try (simp at he; done)
       all_goals
         simp at he
         subst he
         simp only [VR] at hx hy
         first
           | (obtain ⟨_, rfl, _⟩ := hx)
           | subst hx
         first
           | (obtain ⟨_, rfl, _⟩ := hy)
           | subst hy
         refine fin (guard_plain (by simp) (by simp)) (by simp) (by simp) (by simp) (by simp) (by simp) ?_
         first | exact eqI_fn0 (d := 9999) hu | exact eqI_fn1 (d := 9999) hu | exact eqI_fn2 (d := 9999) hu
theorem un_ok {op : UnOp} {x v : AV} {a : Value} (hx : VR G I x a) (hb : unVal op x = some v) : ∃ cv, (Op.unary op a).run P w = .ok cv w ∧ VR G I v cv := by
 unfold unVal at hb
 split at hb
 · simp at hb
   subst hb
   simp only [VR] at hx
   subst hx
   exact ⟨_, by simp [Op.unary, Op.intArith]; rfl, by simp [VR]⟩
 · simp at hb
   subst hb
   simp only [VR] at hx
   subst hx
   exact ⟨_, by simp [Op.unary]; rfl, by simp [VR]⟩
 · simp at hb
end
section
variable {P : Program} {G : Ghost} {I : Imm} {h : List AObj} {w : World} {gen slot : Nat}
def OR (G : Ghost) (I : Imm) : Option AV → Option Value → Prop
 | none, none => True
 | some x, some v => VR G I x v
 | _, _ => False
theorem sliceBound_ok {k : IntKind} {i : Int} {y : Nat} {code : BoundsCode} (h0 : 0 ≤ i) (h1 : i.toNat ≤ y) : (Instr.sliceBound (.int k i) y code).run P w = .ok i.toNat w := by
 have : 0 ≤ i ∧ i ≤ (y : Int) := ⟨h0, by omega⟩
 simp [Instr.sliceBound, asIntOf, this]
theorem bound_some {d n : Nat} {x : AV} {v : Value} (hv : VR G I x v) (hb : bound d (some x) = some n) : ∃ k i, v = .int k i ∧ 0 ≤ i ∧ i.toNat = n := by
 unfold bound at hb
 split at hb
 · rename_i heq; simp at heq
 · rename_i heq
   split at hb
   · simp at hb heq
     subst heq
     simp only [VR] at hv
     exact ⟨_, _, hv, ‹_›, hb⟩
   · simp at hb
 · simp at hb
theorem sliceBounds_ok {isSlice : Bool} {len cap l r : Nat} {lo hi : Option AV} {clo chi : Option Value} (hlo : OR G I lo clo) (hhi : OR G I hi chi) (hl : bound 0 lo = some l) (hr : bound len hi = some r) (hlr : l ≤ r) (hrc : r ≤ cap) :
   (Instr.sliceBounds isSlice len cap clo chi none).run P w = .ok (l, r, cap) w := by
 unfold Instr.sliceBounds
 cases hi with
 | none =>
   cases chi with
   | some v => exact hhi.elim
   | none =>
     simp [bound] at hr
     subst hr
     cases lo with
     | none =>
       cases clo with
       | none => simp [bound] at hl; subst hl; simp
       | some v => exact hlo.elim
     | some y =>
       cases clo with
       | none => exact hlo.elim
       | some v =>
         obtain ⟨k'', i'', rfl, h0'', h1''⟩ := bound_some hlo hl
         have b3 := sliceBound_ok (P := P) (w := w) (k := k'') (code := .sliceB) h0'' (show i''.toNat ≤ len by omega)
         rw [h1''] at b3
         simp [b3]
 | some x =>
   cases chi with
   | none => exact hhi.elim
   | some v =>
     obtain ⟨k', i', rfl, h0', h1'⟩ := bound_some hhi hr
     have b2 := sliceBound_ok (P := P) (w := w) (k := k') (code := if isSlice then .sliceAcap else .sliceAlen) h0' (show i'.toNat ≤ cap by omega)
     rw [h1'] at b2
     cases lo with
     | none =>
       cases clo with
       | none => simp [bound] at hl; subst hl; simp [b2]
       | some v => exact hlo.elim
     | some y =>
       cases clo with
       | none => exact hlo.elim
       | some v =>
         obtain ⟨k'', i'', rfl, h0'', h1''⟩ := bound_some hlo hl
         have b3 := sliceBound_ok (P := P) (w := w) (k := k'') (code := .sliceB) h0'' (show i''.toNat ≤ r by omega)
         rw [h1''] at b3
         simp [b2, b3]
theorem sliceBounds3_ok {len cap l r : Nat} {lo hi mx : Option AV} {clo chi cmx : Option Value} (hlo : OR G I lo clo) (hhi : OR G I hi chi) (hmx : OR G I mx cmx) (hl : bound 0 lo = some l) (hr : bound len hi = some r) (hm : bound 0 mx = some r) (his : hi.isSome = true) (hms : mx.isSome = true) (hlr : l ≤ r) (hrc : r ≤ cap) :
   (Instr.sliceBounds true len cap clo chi cmx).run P w = .ok (l, r, r) w := by
 cases mx with
 | none => simp at hms
 | some m =>
   cases cmx with
   | none => exact hmx.elim
   | some cm =>
     obtain ⟨k, i, rfl, h0, h1⟩ := bound_some hmx hm
     cases hi with
     | none => simp at his
     | some x =>
       cases chi with
       | none => exact hhi.elim
       | some v =>
         obtain ⟨k', i', rfl, h0', h1'⟩ := bound_some hhi hr
         have b1 := sliceBound_ok (P := P) (w := w) (k := k) (code := .slice3Acap) h0 (show i.toNat ≤ cap by omega)
         have b2 := sliceBound_ok (P := P) (w := w) (k := k') (code := .slice3B) h0' (show i'.toNat ≤ r by omega)
         rw [h1] at b1
         rw [h1'] at b2
         unfold Instr.sliceBounds
         cases lo with
         | none =>
           cases clo with
           | none =>
             simp [bound] at hl
             subst hl
             simp [b1, b2]
           | some v => exact hlo.elim
         | some y =>
           cases clo with
           | none => exact hlo.elim
           | some v =>
             obtain ⟨k'', i'', rfl, h0'', h1''⟩ := bound_some hlo hl
             have b3 := sliceBound_ok (P := P) (w := w) (k := k'') (code := .slice3C) h0'' (show i''.toNat ≤ r by omega)
             rw [h1''] at b3
             simp [b1, b2, b3]
theorem RowI_cut {xs : List AV} {b o e l r : Nat} (hr : RowI G I xs b o e) : RowI G I ((xs.take r).drop l) b (o + l * e) e := by
 refine RowI_iff.2 fun k x hx => ?_
 rw [List.getElem?_drop] at hx
 have hlt : l + k < r := by
   have := (List.getElem?_eq_some_iff.1 hx).1
   simp at this
   omega
 rw [List.getElem?_take_of_lt hlt] at hx
 have := RowI_iff.1 hr (l + k) x hx
 rwa [Nat.add_mul, ← Nat.add_assoc] at this
theorem headLen_ok {esz : Nat} {xs : List AV} {b o e : Nat} (hh : headLen esz xs = true) (hn : xs ≠ []) (hr : RowI G I xs b o e) : e = esz := by
 cases xs with
 | nil => exact absurd rfl hn
 | cons x xs =>
   simp [headLen] at hh
   have := (RowI_cons.1 hr).1
   omega
theorem slice_str {s : List Nat} {t : TypeId} {l r : Nat} {lo hi : Option AV} {clo chi : Option Value} (hs : ∀ b ∈ s, b < 256) (hu : P.underlying t = some .string) (hlo : OR G I lo clo) (hhi : OR G I hi chi) (hl : bound 0 lo = some l) (hr : bound s.length hi = some r) (hlr : l ≤ r) (hrc : r ≤ s.length) :
   ∃ cv, (Instr.sliceAt t (.string (baOf s)) clo chi none).run P w = .ok cv w ∧ VR G I (.str ((s.take r).drop l)) cv := by
 have hb := sliceBounds_ok (P := P) (w := w) (isSlice := false) (cap := s.length) hlo hhi hl hr hlr hrc
 refine ⟨.string (baOf ((s.take r).drop l)), ?_, by simp only [VR]; exact ⟨trivial, fun b hb => hs b (List.mem_of_mem_take (List.mem_of_mem_drop hb))⟩⟩
 have hx : (baOf s).extract l r = baOf ((s.take r).drop l) := by
   apply ByteArray.ext
   apply Array.ext'
   simp [baOf, ByteArray.data_extract, List.drop_take, List.map_take, List.map_drop]
 simp only [Instr.sliceAt, Sem.run_bind, run_underlying hu, Result.andThen]
 simp [Instr.slice, run_underlying hu, baOf_size, hb, hx]
theorem slice_sl {xs : List AV} {tp tp' : Tip} {t e : TypeId} {sz l r m : Nat} {a : Value} {clo chi cmx : Option Value} (hx : VR G I (.sl xs tp) a) (hu : P.underlying t = some (.slice e)) (hsz : sizeP P e = some sz) (hh : headLen sz xs = true)
   (hlr : l ≤ r) (hrx : r ≤ xs.length)
   (hb : ∀ c, xs.length ≤ c → (Instr.sliceBounds true xs.length c clo chi cmx).run P w = .ok (l, r, if m = 0 then c else r) w)
   (ht : (m = 0 ∧ tp' = if r = xs.length then tp else .no) ∨ (m ≠ 0 ∧ tp' = .full)) :
   ∃ cv, (Instr.sliceAt t a clo chi cmx).run P w = .ok cv w ∧ VR G I (.sl ((xs.take r).drop l) tp') cv := by
 simp only [VR] at hx
 obtain ⟨A, n, c, rfl, rfl, hnc, htip, hrow⟩ := hx
 have hs : (sizeOf e).run P w = .ok sz w := by
   unfold sizeP at hsz
   cases hi : P.info? e with
   | none => simp [hi] at hsz
   | some i => simp [hi] at hsz; simp [sizeOf, typeInfo, hi, hsz]
 have hrun : (Instr.sliceAt t (.slice A xs.length c) clo chi cmx).run P w = .ok (.slice (if (if m = 0 then c else r) = l then A else A.map (·.add (l * sz))) (r - l) ((if m = 0 then c else r) - l)) w := by
   simp only [Instr.sliceAt, Sem.run_bind, run_underlying hu, Result.andThen]
   simp only [Instr.slice, Sem.run_bind, run_underlying hu, Result.andThen, hb c hnc, hs, Sem.run_pure]
 refine ⟨_, hrun, ?_⟩
 simp only [VR]
 refine ⟨(if (if m = 0 then c else r) = l then A else A.map (·.add (l * sz))), r - l, (if m = 0 then c else r) - l, rfl, by simp; omega, by split <;> omega, ?_, ?_⟩
 · clear hrow hrun
   rcases ht with ⟨hm, rfl⟩ | ⟨hm, rfl⟩
   · rw [if_pos hm]
     split
     · rename_i hr
       cases tp with
       | no => trivial
       | nn =>
         simp only [TipR] at htip ⊢
         cases A with
         | none => exact absurd rfl htip
         | some A => split <;> simp
       | full =>
         simp only [TipR] at htip ⊢
         simp
         omega
       | nil =>
         simp only [TipR] at htip ⊢
         obtain ⟨rfl, h2, rfl⟩ := htip
         simp
         omega
       | «at» s g =>
         simp only [TipR] at htip ⊢
         obtain ⟨i, h1, h2, h3, h4, h5⟩ := htip
         refine ⟨i, h1, h2, h3, fun x hx => h4 x (List.mem_of_mem_take (List.mem_of_mem_drop hx)), ?_⟩
         have hlen : ((xs.take r).drop l).length = xs.length - l := by simp; omega
         rw [hlen]
         rcases h5 with h5 | ⟨h5, o, rfl, h6, h7⟩
         · exact .inl (by omega)
         · by_cases hcl : c = l
           · exact .inl (by omega)
           · refine .inr ⟨h5, o + l * i.esz, ?_, ?_, ?_⟩
             · rw [if_neg hcl]
               simp only [Option.map_some, Addr.add_lit]
               by_cases hl0 : l = 0
               · subst hl0; simp
               · have : xs ≠ [] := fun e => by subst e; simp at hrx; omega
                 obtain ⟨x, xs', rfl⟩ := List.exists_cons_of_ne_nil this
                 have he := h4 x (by simp)
                 simp [headLen] at hh
                 rw [← hh, he]
             · have : xs.length * i.esz = l * i.esz + (xs.length - l) * i.esz := by rw [← Nat.add_mul]; congr 1; omega
               omega
             · have : c * i.esz = l * i.esz + (c - l) * i.esz := by rw [← Nat.add_mul]; congr 1; omega
               omega
     · trivial
   · rw [if_neg hm]
     simp only [TipR]
     simp
     omega
 · rcases hrow with h0 | ⟨b, o, e', rfl, hpos, hrow⟩
   · exact .inl (by omega)
   · by_cases hz : r - l = 0
     · exact .inl hz
     · refine .inr ⟨b, o + l * e', e', ?_, hpos, RowI_cut hrow⟩
       have hne : xs ≠ [] := fun e => by subst e; simp at hrx; omega
       have he := headLen_ok hh hne hrow
       subst he
       have hcl : ¬ (if m = 0 then c else r) = l := by split <;> omega
       rw [if_neg hcl]
       simp [Addr.add_lit]
theorem len_ok {x v : AV} {a : Value} {t ty : TypeId} {l : LenTy} (rel : Rel G I h w) (hx : VR G I x a)
   (hu : (P.underlying t = some .string ∧ l = .str) ∨ (∃ e, P.underlying t = some (.slice e) ∧ l = .sl) ∨ (∃ k e, P.underlying t = some (.map k e) ∧ l = .mp) ∨ (∃ n e, P.underlying t = some (.array n e) ∧ l = .arr n) ∨
     (∃ p n e, P.underlying t = some (.pointer p) ∧ P.underlying p = some (.array n e) ∧ l = .arr n)) (hv : lenVal h l x = some v) :
   ∃ cv, (Builtin.len_ #[t] ty #[a]).run P w = .ok cv w ∧ VR G I v cv := by
 rcases hu with ⟨hu, rfl⟩ | ⟨e, hu, rfl⟩ | ⟨k, e, hu, rfl⟩ | ⟨n, e, hu, rfl⟩ | ⟨p, n, e, hu, hu2, rfl⟩
 · cases x <;> simp [lenVal] at hv
   rename_i s
   subst hv
   simp only [VR] at hx
   obtain ⟨rfl, _⟩ := hx
   exact ⟨.int .i64 s.length, by simp [Builtin.len_, run_underlying hu, goInt, baOf_size], by simp [VR]⟩
 · cases x <;> simp [lenVal] at hv
   · rename_i xs tp
     subst hv
     simp only [VR] at hx
     obtain ⟨A, n, c, rfl, rfl, _⟩ := hx
     exact ⟨.int .i64 xs.length, by simp [Builtin.len_, run_underlying hu, goInt], by simp [VR]⟩
   · rename_i s g o l
     subst hv
     simp only [VR] at hx
     obtain ⟨i, A, c, _, _, rfl, _⟩ := hx
     exact ⟨.int .i64 l, by simp [Builtin.len_, run_underlying hu, goInt], by simp [VR]⟩
 · cases x <;> simp only [lenVal, Option.map_eq_some_iff, Option.some.injEq] at hv <;> try (simp at hv; done)
   · rename_i s g
     obtain ⟨es, hes, rfl⟩ := hv
     simp only [VR] at hx
     obtain ⟨i, hi, _, rfl⟩ := hx
     obtain ⟨i', ents, clk, hi', _, hw, hm⟩ := rel.obj s _ (mapAt_eq hes)
     obtain rfl : i = i' := by rw [hi] at hi'; simpa using hi'
     have hlen : ∀ {xs : List (AV × AV)} {ms : List MapEntry}, MapR G I xs ms → ms.length = xs.length := by
       intro xs
       induction xs with
       | nil => intro ms hm; cases hm; rfl
       | cons x xs ih =>
         intro ms hm
         obtain ⟨e, rest, rfl, _, _, h3⟩ := hm
         simp [ih h3]
     refine ⟨.int .i64 es.length, ?_, by simp [VR]⟩
     have := hlen hm
     simp at this
     simp [Builtin.len_, run_underlying hu, goInt, getObj, Sem.run, hw, this]
   · subst hv
     simp only [VR] at hx
     subst hx
     exact ⟨.int .i64 0, by simp [Builtin.len_, run_underlying hu, goInt], by simp [VR]⟩
 · simp [lenVal] at hv
   subst hv
   exact ⟨.int .i64 n, by simp [Builtin.len_, run_underlying hu, goInt], by simp [VR]⟩
 · simp [lenVal] at hv
   subst hv
   exact ⟨.int .i64 n, by simp [Builtin.len_, run_underlying hu, run_underlying hu2, goInt], by simp [VR]⟩
theorem cap_ok {x v : AV} {a : Value} {t ty e : TypeId} (hx : VR G I x a) (hu : P.underlying t = some (.slice e)) (hv : lenVal h .cap x = some v) :
   ∃ cv, (Builtin.cap_ #[t] ty #[a]).run P w = .ok cv w ∧ VR G I v cv := by
 cases x <;> simp [lenVal] at hv
 rename_i xs tp
 obtain ⟨ht, rfl⟩ := hv
 simp only [VR] at hx
 obtain ⟨A, n, c, rfl, rfl, _, hc, _⟩ := hx
 have : c = xs.length := by
   rcases ht with rfl | rfl
   · simp only [TipR] at hc
     omega
   · exact hc
 subst this
 exact ⟨.int .i64 xs.length, by simp [Builtin.cap_, run_underlying hu, goInt], by simp [VR]⟩
end
section
variable {P : Program} {G : Ghost} {I : Imm} {h : List AObj} {w : World} {gen slot : Nat}
theorem sizeP_run {e : TypeId} {sz : Nat} (hsz : sizeP P e = some sz) (w : World) : (sizeOf e).run P w = .ok sz w := by
 unfold sizeP at hsz
 cases hi : P.info? e with
 | none => simp [hi] at hsz
 | some i => simp [hi] at hsz; simp [sizeOf, typeInfo, hi, hsz]
theorem cVal1_ok {v : Value} {x : AV} (hc : cVal1 v = some x) : VR G I x v := by
 unfold cVal1 at hc
 split at hc <;> simp at hc <;> subst hc <;> simp only [VR]
 · rename_i s
   refine ⟨?_, ?_⟩
   · congr 1
     apply ByteArray.ext
     apply Array.ext'
     simp only [baOf, List.map_map]
     rw [show (UInt8.ofNat ∘ fun (x : UInt8) => x.toNat) = id from by funext x; simp]
     simp
   · intro b hb
     simp at hb
     obtain ⟨u, _, rfl⟩ := hb
     exact UInt8.toNat_lt u
 · exact ⟨none, 0, 0, rfl, rfl, Nat.le_refl _, ⟨rfl, rfl, rfl⟩, .inl rfl⟩
theorem cVals_ok : ∀ {vs : List Value} {xs : List AV}, cVals vs = some xs → VRL G I xs vs
 | [], xs, hc => by simp [cVals] at hc; subst hc; simp [VRL]
 | v :: vs, xs, hc => by
   simp only [cVals] at hc
   split at hc
   · rename_i a b ha hb
     simp at hc
     subst hc
     simp only [VRL]
     exact ⟨v, vs, rfl, cVal1_ok ha, cVals_ok hb⟩
   · simp at hc
theorem cVal_ok {v : Value} {x : AV} (hc : cVal v = some x) : VR G I x v := by
 unfold cVal at hc
 split at hc
 · simp at hc
   obtain ⟨cs, h1, rfl⟩ := hc
   simp only [VR]
   exact ⟨_, rfl, cVals_ok h1⟩
 · exact cVal1_ok hc
def TR (G : Ghost) (I : Imm) (ts : Tmps) (ρ : Operand → Value) : Prop :=
 (∀ t, VR G I (ts t) (ρ (.tmp t))) ∧ (∀ v, ρ (.const v) = v) ∧ ∀ f, ρ (.func f) = .func (.func f) #[] #[]
theorem cOpd_ok {ts : Tmps} {ρ : Operand → Value} {o : Operand} {x : AOpd} (ht : TR G I ts ρ) (hc : cOpd o = some x) : VR G I (x.ev ts) (ρ o) := by
 cases o with
 | tmp t => simp [cOpd] at hc; subst hc; exact ht.1 t
 | const v =>
   simp [cOpd] at hc
   subst hc
   simp only [AOpd.ev, ht.2.1]
   cases hv : cVal v with
   | none => simp [VR]
   | some x => exact cVal_ok hv
 | func f =>
   simp [cOpd] at hc
   subst hc
   simp only [AOpd.ev, ht.2.2, VR]
   exact ⟨#[], rfl, by simp [VRL]⟩
 | global g => simp [cOpd] at hc; subst hc; simp [AOpd.ev, VR]
theorem cOpds_ok {ts : Tmps} {ρ : Operand → Value} (ht : TR G I ts ρ) : ∀ {os : List Operand} {xs : List AOpd}, cOpds os = some xs → VRL G I (xs.map (·.ev ts)) (os.map ρ)
 | [], xs, hc => by simp [cOpds] at hc; subst hc; simp [VRL]
 | o :: os, xs, hc => by
   simp only [cOpds] at hc
   split at hc
   · rename_i a b ha hb
     simp at hc
     subst hc
     simp only [List.map_cons, VRL]
     exact ⟨_, _, rfl, cOpd_ok ht ha, cOpds_ok ht hb⟩
   · simp at hc
theorem cOpdO_ok {ts : Tmps} {ρ : Operand → Value} (ht : TR G I ts ρ) {o : Option Operand} {x : Option AOpd} (hc : cOpdO o = some x) : OR G I (x.map (·.ev ts)) (o.map ρ) := by
 cases o with
 | none => simp [cOpdO] at hc; subst hc; trivial
 | some o =>
   simp [cOpdO] at hc
   obtain ⟨a, h1, rfl⟩ := hc
   exact cOpd_ok ht h1
theorem zeroP_ok {t : TypeId} {z : AV} (hz : zeroP P t = some z) : ∃ i zv, P.info? t = some i ∧ i.zero = some zv ∧ VR G I z zv := by
 unfold zeroP at hz
 cases hi : P.info? t with
 | none => simp [hi] at hz
 | some i =>
   cases hzz : i.zero with
   | none => simp [hi, hzz] at hz
   | some zv =>
     simp [hi, hzz] at hz
     exact ⟨i, zv, rfl, hzz, cVal_ok hz⟩
theorem part_ok {t : TypeId} {cells : List AV} {cs : Array Value} {off : Nat} {sz : Option Nat} {v : AV} (ha : ArrR G I cells cs) (hs : loadSz P t = some sz) (hr : readCells cells off sz = some v) :
   ∃ cv, (part t cs off).run P w = .ok cv w ∧ VR G I v cv := by
 cases hu : P.underlying t with
 | none => simp [loadSz, hu] at hs
 | some d =>
   have hagg := run_isAgg (w := w) hu
   by_cases hd : aggD d = true
   · obtain ⟨n, hn, rfl⟩ : ∃ n, sizeP P t = some n ∧ sz = some n := by
       unfold loadSz at hs
       rw [hu] at hs
       cases d <;> simp [aggD] at hd <;> (simp at hs; obtain ⟨n, h1, h2⟩ := hs; exact ⟨n, h1, h2.symm⟩)
     simp only [readCells] at hr
     split at hr
     · rename_i hle
       simp only [Option.some.injEq] at hr
       subst hr
       refine ⟨.agg (cs.extract off (off + n)), by simp [part, hagg, hd, sizeP_run hn], ?_⟩
       refine ArrR.agg ⟨?_, fun j c hj => ?_⟩
       · have := ha.1
         simp
         omega
       · have hjn : j < n := by
           have := (List.getElem?_eq_some_iff.1 hj).1
           simp at this
           omega
         rw [List.getElem?_take_of_lt hjn, List.getElem?_drop] at hj
         obtain ⟨u, hu, hv⟩ := ha.2 (off + j) c hj
         refine ⟨u, ?_, hv⟩
         have h1 := ha.1
         have : j < min (off + n) cs.size - off := by omega
         rw [Array.getElem?_extract]
         simp [this, hu]
     · simp at hr
   · have hz : sz = none := by
       unfold loadSz at hs
       rw [hu] at hs
       cases d <;> first | (simp [aggD] at hd; done) | (simp at hs; exact hs.symm)
     subst hz
     simp only [readCells] at hr
     obtain ⟨u, h1, h2⟩ := ha.2 off v hr
     have hd' : aggD d = false := by simpa using hd
     exact ⟨u, by simp [part, hagg, hd', h1], h2⟩
theorem fieldOf_eq {t ft : TypeId} {f o : Nat} (hf : fieldOf P t f = some (o, ft)) : ∃ fs fd, P.underlying t = some (.struct fs) ∧ fs[f]? = some fd ∧ fd.offset = o ∧ fd.type = ft := by
 unfold fieldOf at hf
 split at hf
 · rename_i fs hu
   simp at hf
   obtain ⟨fd, h1, h2, h3⟩ := hf
   exact ⟨fs, fd, hu, h1, h2, h3⟩
 · simp at hf
theorem field_ok {t ft : TypeId} {f o : Nat} {sz : Option Nat} {cs : List AV} {a : Value} {v : AV} (hx : VR G I (.agg cs) a) (hf : fieldOf P t f = some (o, ft)) (hs : loadSz P ft = some sz) (hr : readCells cs o sz = some v) :
   ∃ cv, (Instr.field t a f).run P w = .ok cv w ∧ VR G I v cv := by
 obtain ⟨fs, fd, hu, h1, rfl, rfl⟩ := fieldOf_eq hf
 obtain ⟨vs, rfl, ha⟩ := ArrR.of_agg hx
 obtain ⟨cv, h2, h3⟩ := part_ok (w := w) ha hs hr
 exact ⟨cv, by simp [Instr.field, run_underlying hu, h1, asAgg, h2], h3⟩
theorem fieldAt_ok {t ft : TypeId} {f o : Nat} {b p : Nat} (hf : fieldOf P t f = some (o, ft)) {n : Nat} (hs : sizeP P ft = some (n + 1)) :
   (Instr.fieldAt t (.pointer (some ⟨b, p, none⟩)) f).run P w = .ok (.pointer (some ⟨b, p + o, none⟩)) w := by
 obtain ⟨fs, fd, hu, h1, rfl, rfl⟩ := fieldOf_eq hf
 have hz := sizeP_run hs
 simp [Instr.fieldAt, run_underlying hu, h1, Instr.sureAddr, fieldPlace, hz, Addr.add_lit]
theorem indexSl_ok {t e : TypeId} {sz : Nat} {k : IntKind} {i : Int} {xs : List AV} {tp : Tip} {x : AV} {a : Value} (hu : P.underlying t = some (.slice e)) (hs : sizeP P e = some sz) (hx : VR G I (.sl xs tp) a)
   (h0 : 0 ≤ i) (he : xs[i.toNat]? = some x) (hl : x.cells.length = sz) : ∃ cv, (Instr.indexAt t a (.int k i)).run P w = .ok cv w ∧ VR G I (.iptr x.cells 0) cv := by
 simp only [VR] at hx
 obtain ⟨A, n, c, rfl, rfl, _, _, hrow⟩ := hx
 have hlt := (List.getElem?_eq_some_iff.1 he).1
 rcases hrow with h | ⟨b, o, e', rfl, _, hrow⟩
 · omega
 · obtain ⟨h1, h2⟩ := RowI_iff.1 hrow _ _ he
   obtain rfl : e' = sz := by omega
   have hc : 0 ≤ i ∧ i < (xs.length : Int) := ⟨h0, by omega⟩
   refine ⟨.pointer (some ⟨b, o + i.toNat * e', none⟩), ?_, ?_⟩
   · simp [Instr.indexAt, asIntOf, run_underlying hu, hc, sizeP_run hs, Addr.add_lit]
   · simp only [VR]
     exact ⟨b, o + i.toNat * e', rfl, h2⟩
theorem indexOb_ok {t e : TypeId} {sz : Nat} {k : IntKind} {i : Int} {s g off len : Nat} {es : List AV} {row grow : Bool} {fz : Nat} {x : AV} {a : Value} (rel : Rel G I h w) (hu : P.underlying t = some (.slice e)) (hs : sizeP P e = some sz) (hx : VR G I (.ob s g off len) a)
   (hb : blkAt h s g = some (es, row, grow, fz)) (h0 : 0 ≤ i) (he : es[off + i.toNat]? = some x) (hlt : i.toNat < len) (hl : x.cells.length = sz) :
   ∃ cv, (Instr.indexAt t a (.int k i)).run P w = .ok cv w ∧ VR G I (.ptr s g (off + i.toNat) 0) cv := by
 simp only [VR] at hx
 obtain ⟨gi, A, c, hg, hsl, rfl, hlc, hoc, hA⟩ := hx
 obtain ⟨gi', cs, ty, hg', _, _, _, _, _, _, _, hE, _⟩ := rel.obj s _ (blkAt_eq hb)
 obtain rfl : gi = gi' := by rw [hg] at hg'; simpa using hg'
 have hz := (hE _ _ he).1
 obtain rfl : gi.esz = sz := by omega
 rcases hA with h | rfl
 · omega
 · have hc : 0 ≤ i ∧ i < (len : Int) := ⟨h0, by omega⟩
   refine ⟨.pointer (some ⟨gi.blk, off * gi.esz + i.toNat * gi.esz, none⟩), ?_, ?_⟩
   · simp [Instr.indexAt, asIntOf, run_underlying hu, hc, sizeP_run hs, Addr.add_lit]
   · simp only [VR]
     exact ⟨gi, hg, hsl, by rw [Nat.add_mul]; rfl⟩
theorem indexArr_ok {t e : TypeId} {n sz : Nat} {k : IntKind} {i : Int} {b p : Nat} (hu : P.underlying t = some (.array n e)) (hs : sizeP P e = some sz) (h0 : 0 ≤ i) (hlt : i.toNat < n) :
   (Instr.indexAt t (.pointer (some ⟨b, p, none⟩)) (.int k i)).run P w = .ok (.pointer (some ⟨b, p + i.toNat * sz, none⟩)) w := by
 have hc : 0 ≤ i ∧ i < (n : Int) := ⟨h0, by omega⟩
 simp [Instr.indexAt, asIntOf, run_underlying hu, Instr.sureAddr, hc, sizeP_run hs, Addr.add_lit]
theorem indexAgg_ok {t e : TypeId} {n sz : Nat} {l : Option Nat} {k : IntKind} {i : Int} {cs : List AV} {a : Value} {v : AV} (hu : P.underlying t = some (.array n e)) (hs : sizeP P e = some sz) (hl : loadSz P e = some l) (hx : VR G I (.agg cs) a)
   (h0 : 0 ≤ i) (hlt : i.toNat < n) (hr : readCells cs (i.toNat * sz) l = some v) : ∃ cv, (Instr.index t a (.int k i)).run P w = .ok cv w ∧ VR G I v cv := by
 obtain ⟨vs, rfl, ha⟩ := ArrR.of_agg hx
 obtain ⟨cv, h2, h3⟩ := part_ok (w := w) ha hl hr
 have hc : 0 ≤ i ∧ i < (n : Int) := ⟨h0, by omega⟩
 exact ⟨cv, by simp [Instr.index, asIntOf, run_underlying hu, hc, sizeP_run hs, h2], h3⟩
theorem indexStr_ok {t : TypeId} {k : IntKind} {i : Int} {s : List Nat} {b : Nat} {a : Value} (hu : P.underlying t = some .string) (hx : VR G I (.str s) a) (h0 : 0 ≤ i) (he : s[i.toNat]? = some b) :
   ∃ cv, (Instr.index t a (.int k i)).run P w = .ok cv w ∧ VR G I (.int .u8 (Int.ofNat b)) cv := by
 simp only [VR] at hx
 obtain ⟨rfl, hs⟩ := hx
 have hb := hs b (List.mem_of_getElem? he)
 have hg : (baOf s)[i.toNat]? = some (UInt8.ofNat b) := by
   have h1 : i.toNat < (baOf s).size := by
     rw [baOf_size]
     exact (List.getElem?_eq_some_iff.1 he).1
   rw [getElem?_pos (baOf s) i.toNat h1]
   congr 1
   show (baOf s).data[i.toNat] = _
   have := (List.getElem?_eq_some_iff.1 he).2
   simp [baOf, this]
 refine ⟨.int .u8 (Int.ofNat b), ?_, by simp only [VR]⟩
 simp [Instr.index, asIntOf, run_underlying hu, h0, hg, toNat_ofNat hb]
theorem extract_ok {cs : List AV} {i : Nat} {a : Value} {v : AV} (hx : VR G I (.tup cs) a) (he : cs[i]? = some v) : ∃ cv, (Instr.extract a i).run P w = .ok cv w ∧ VR G I v cv := by
 simp only [VR] at hx
 obtain ⟨vs, rfl, h1⟩ := hx
 obtain ⟨h2, h3⟩ := VRL_iff.1 h1
 have hl : i < vs.toList.length := by
   rw [← h2]
   exact (List.getElem?_eq_some_iff.1 he).1
 have hl' : i < vs.size := by simpa using hl
 refine ⟨vs[i], by simp [Instr.extract, hl'], h3 i v _ he ?_⟩
 rw [Array.getElem?_toList, Array.getElem?_eq_getElem hl']
theorem minmax_ok {mx : Bool} {k j : IntKind} {a b : Int} {tys : Array TypeId} {ty : TypeId} :
   ((if mx then Builtin.max_ else Builtin.min_) tys ty #[.int k a, .int j b]).run P w = .ok (.int k (if mx then (if b > a then b else a) else (if b < a then b else a))) w := by
 cases mx <;> simp [Builtin.max_, Builtin.max2, Builtin.min_, Builtin.min2]
theorem slice_ob {s g off len l r : Nat} {es : List AV} {row grow : Bool} {fz : Nat} {t e : TypeId} {sz : Nat} {a : Value} {lo hi : Option AV} {clo chi : Option Value} (rel : Rel G I h w) (hx : VR G I (.ob s g off len) a) (hu : P.underlying t = some (.slice e)) (hsz : sizeP P e = some sz)
   (hb : blkAt h s g = some (es, row, grow, fz)) (hh : headLen sz es = true) (hlo : OR G I lo clo) (hhi : OR G I hi chi) (hl : bound 0 lo = some l) (hr : bound len hi = some r) (hlr : l ≤ r)
   (hfit : if grow = true then r ≤ len ∧ off + len ≤ es.length else off + r ≤ es.length) :
   ∃ cv, (Instr.sliceAt t a clo chi none).run P w = .ok cv w ∧ VR G I (.ob s g (off + l) (r - l)) cv := by
 simp only [VR] at hx
 obtain ⟨gi, A, c, hg, hsl, rfl, hlc, hoc, hA⟩ := hx
 obtain ⟨gi', cs, ty, hg', _, _, _, hpos, hcap, hgr, _, hE, _⟩ := rel.obj s _ (blkAt_eq hb)
 obtain rfl : gi = gi' := by rw [hg] at hg'; simpa using hg'
 have hrc : r ≤ c := by
   cases grow with
   | true => simp at hfit; omega
   | false =>
     have := hgr rfl
     simp at hfit
     omega
 have hbd := sliceBounds_ok (P := P) (w := w) (isSlice := true) (cap := c) hlo hhi hl hr hlr hrc
 have hrun : (Instr.sliceAt t (.slice A len c) clo chi none).run P w = .ok (.slice (if c = l then A else A.map (·.add (l * sz))) (r - l) (c - l)) w := by
   simp only [Instr.sliceAt, Sem.run_bind, run_underlying hu, Result.andThen]
   simp only [Instr.slice, Sem.run_bind, run_underlying hu, Result.andThen, hbd, sizeP_run hsz, Sem.run_pure]
 refine ⟨.slice (if c = l then A else A.map (·.add (l * sz))) (r - l) (c - l), hrun, ?_⟩
 simp only [VR]
 refine ⟨gi, (if c = l then A else A.map (·.add (l * sz))), c - l, hg, hsl, rfl, by omega, by omega, ?_⟩
 by_cases hcl : c = l
 · exact .inl (by omega)
 · rw [if_neg hcl]
   rcases hA with h0 | rfl
   · omega
   · refine .inr ?_
     simp only [Option.map_some, Addr.add_lit]
     by_cases hl0 : l = 0
     · subst hl0; simp
     · cases es with
       | nil =>
         exfalso
         simp at hfit
         cases grow <;> simp at hfit <;> omega
       | cons x es =>
         have h1 := (hE 0 x rfl).1
         simp [headLen] at hh
         rw [← hh, h1, Nat.add_mul]
theorem toBytes_step {src dst e : TypeId} {s : List Nat} {a : Value} {r : Result Next} (hg : G gen = none) (rel : Rel G I h w) (hs : P.underlying src = some .string) (hd : P.underlying dst = some (.slice e)) (he : P.underlying e = some (.int .u8)) (hx : VR G I (.str s) a)
   (hr : r = ((convert src dst a).bind fun v => Sem.pure (.value v)).run P w) : Step G I h w gen slot r (.sl (s.map fun (b : Nat) => .int .u8 (Int.ofNat b)) .no) h := by
 simp only [VR] at hx
 obtain ⟨rfl, hb⟩ := hx
 have hrun := run_bytes_of_string w src dst e (baOf s) hs hd he
 generalize hcap : grownCap w (baOf s).size 0 e = cap at hrun
 have hge : s.length ≤ cap := by
   have := grownCap_ge w (baOf s).size 0 e
   rw [baOf_size] at this hcap
   omega
 generalize hrow : bytesRow (baOf s) cap = row at hrun
 have hget : ∀ (j b : Nat), s[j]? = some b → row[j]? = some (Value.int .u8 (Int.ofNat b)) := by
   intro j b hj
   have hlt := (List.getElem?_eq_some_iff.1 hj).1
   have hv := (List.getElem?_eq_some_iff.1 hj).2
   subst hrow
   unfold bytesRow
   have hsz : j < (Array.map (fun b : UInt8 => Value.int .u8 b.toNat) (baOf s).data).size := by simpa [baOf] using hlt
   rw [Array.getElem?_append_left hsz]
   have : b < 256 := hb b (List.mem_of_getElem? hj)
   simp [baOf, hlt, hv]
   omega
 have hall : ∀ j, j < row.size → ∃ v, row[j]? = some v := fun j hj => ⟨row[j], Array.getElem?_eq_getElem hj⟩
 let I' : Imm := fun b o => if b = w.heap.size then row[o]? else I b o
 have hI : ILe I I' := fun b o v hv => by
   have hlt := World.block_lt_of_cell? w _ (rel.imm b o v hv)
   simp at hlt
   show (if b = w.heap.size then row[o]? else I b o) = some v
   rw [if_neg (by omega)]
   exact hv
 let w' := w.drew.alloc (.cells row e (row.size, row.size + 1))
 have hold : ∀ (b : Nat) (x : Obj), w.heap[b]? = some x → w'.heap[b]? = some x := fun b x hb => heap_alloc_old w.drew _ hb
 have hr0 := rel.world hold
 have hrel : Rel G I' h w' := by
   refine ⟨fun b o v hv => ?_, fun i o ho => ?_, hr0.inj⟩
   · have : (if b = w.heap.size then row[o]? else I b o) = some v := hv
     split at this
     · rename_i e; subst e
       have := alloc_at w.drew (.cells row e (row.size, row.size + 1))
       simp only [World.cell?]
       show (match w'.heap[w.heap.size]? with | some (.cells cs _ _) => cs[o]? | _ => none) = some v
       rw [show w'.heap[w.heap.size]? = some (.cells row e (row.size, row.size + 1)) from this]
       assumption
     · exact hr0.imm b o v this
   · have hob := hr0.obj i o ho
     have hnb : ∀ b, own G o = some b → b ≠ w.heap.size := fun b hb => by
       have := own_lt (rel.obj i o ho) hb
       omega
     have hother : ∀ b o v, b ≠ w.heap.size → I' b o = some v → I b o = some v := fun b o v hb hv => by
       have : (if b = w.heap.size then row[o]? else I b o) = some v := hv
       rwa [if_neg hb] at this
     cases o with
     | dead => trivial
     | blk g' es' row' grow' fz' =>
       obtain ⟨i', cs', t', h1, h2, h3, h4, h5, h6, h7, h8, h9, h10⟩ := hob
       have := hnb i'.blk (by simp [own, h1])
       exact ⟨i', cs', t', h1, h2, h3, h4, h5, h6, h7, h8, h9.mono (GLe.refl _) hI, fun o v hv => h10 o v (hother _ _ _ this hv)⟩
     | tip g' e =>
       obtain ⟨i', h1, h2, h3, h4⟩ := hob
       refine ⟨i', h1, h2, h3, fun hr => ?_⟩
       obtain ⟨cs', t', h5, h6, h7⟩ := h4 hr
       have := hnb i'.blk (by simp [own, h1, hr])
       exact ⟨cs', t', h5, h6, fun o v hv => h7 o v (hother _ _ _ this hv)⟩
     | map g' es' =>
       obtain ⟨i', ents, clk, h1, h2, h3, h4⟩ := hob
       exact ⟨i', ents, clk, h1, h2, h3, h4.mono (GLe.refl _) hI⟩
 refine Step.quiet hg hrel hI (cv := .slice (some ⟨w.heap.size, 0, none⟩) (baOf s).size cap) ?_ ?_ (((Fr.refl G h w).drew).alloc _) (fun b hb _ o v hv => by
   have : (if b = w.heap.size then row[o]? else I b o) = some v := hv
   rwa [if_neg (by omega)] at this)
 · rw [hr]
   show Sem.run P ((convert src dst (.string (baOf s))).bind _) w = _
   have hbind : ∀ (x : Sem Value) (f : Value → Sem Next), (x.bind f).run P w = (x.run P w).andThen fun v w' => (f v).run P w' := fun x f => Sem.run_bind (P := P) w x f
   rw [hbind, hrun]
   rfl
 · simp only [VR]
   refine ⟨_, _, _, rfl, by simp [baOf_size], by rw [baOf_size]; exact hge, trivial, ?_⟩
   by_cases hn : s.length = 0
   · exact .inl (by rw [baOf_size]; exact hn)
   · refine .inr ⟨w.heap.size, 0, 1, rfl, by omega, RowI_iff.2 fun k x hx => ?_⟩
     simp only [List.getElem?_map, Option.map_eq_some_iff] at hx
     obtain ⟨b, hb1, rfl⟩ := hx
     refine ⟨rfl, CellsI_iff.2 fun i c hc => ?_⟩
     cases i with
     | zero =>
       simp [AV.cells] at hc
       subst hc
       refine ⟨.int .u8 (Int.ofNat b), ?_, by simp only [VR]; rfl⟩
       show (if w.heap.size = w.heap.size then row[0 + k * 1 + 0]? else _) = _
       rw [if_pos rfl]
       simpa using hget k b hb1
     | succ i => simp [AV.cells] at hc
end
end Go.Proofs.YtbeooboebfbchaaGreatDoor.Am
