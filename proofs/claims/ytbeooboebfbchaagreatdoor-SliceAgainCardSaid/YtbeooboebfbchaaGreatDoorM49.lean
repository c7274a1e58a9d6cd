/- The row of SliceAgain out of the abstract machine's answer. -/
import Derived.WalkKit
import Derived.ProofKit
import Derived.OpenShut
import Derived.ChangeOld
import Derived.Below
import Derived.Deep.DeepHandedRow
import Derived.LaidMore
import Derived.Deep.DeepWitnessRowRef
import Derived.SevenTiedAt
import Derived.Test.YtbeooboebfbchaaGreatDoorCards
import Derived.Test.YtbeooboebfbchaaGreatDoorTie
import Derived.Test.YtbeooboebfbchaaGreatDoorM14
set_option linter.unusedVariables false
set_option linter.unusedSimpArgs false
namespace Go.Proofs.YtbeooboebfbchaaGreatDoor.Am
open Go Go.ChangeShapes Go.WideShapes Go.ChangeAt Go.RowKit
theorem own_knob : ownKnob Tryz.prog.godebug = none := by kernel_rfl
theorem laidOut : laidOutB Tryz.prog = true := by kernel_rfl
theorem calls_of_res {P : Program} {f : Nat} {fn : Func} {c : Code} {cargs : Array Value} {w : World} {post : Value → World → Prop} (hf : P.funcs[f]? = some fn) (hb : fn.body = some c) (hn : fn.name ≠ "runtime.NumGoroutine") (h : CallRes P f cargs w post) :
   Calls P f cargs w fun e w' => ∃ cv, e = .returned cv ∧ post cv w' := by
 have := h { dst := some 0, op := .move (.tmp 0), type := 0, pos := "", after := #[], guard := none } { tmps := #[undef], defers := [] } (fun a w' => post (a.tmps.getD 0 undef) w') (fun _ _ _ => False) (fun cv w' hp => by simpa [Act.put] using hp)
 rw [callFunc_enter hf hb hn, Oper.upon_enter] at this
 refine this.mono fun e w' he => ?_
 cases e with
 | returned v => exact ⟨v, rfl, by simpa [Act.put] using he⟩
 | panicked c => exact he.elim
 | outgrown => obtain ⟨_, _, hq⟩ := he; exact hq.elim
def intsArg (zs : List Int) : AV := .sl (zs.map fun n => .int .i64 n) .no
def allImm (w : World) : Imm := fun b o => w.cell? ⟨b, o, none⟩
set_option maxRecDepth 100000 in
theorem calls_of_am {Γ : AProg} {back : Nat → Option Nat} (hΓ : ProgOk Tryz.prog back Γ) (hB : BackOk Tryz.prog back) (hI : IterAll Tryz.prog Γ) {f k : Nat} {fn : Func} {c : Code} {args : List AV} {v : AV} {h' : List AObj} {clk : Nat} (hf : Tryz.prog.funcs[f]? = some fn) (hb : fn.body = some c) (hn : fn.name ≠ "runtime.NumGoroutine")
   (hc : callA Γ k f args [] 0 = some (v, h', clk)) {cargs : Array Value} {w : World} (ha : VRL (fun _ => none) (allImm w) args cargs.toList) :
   Calls Tryz.prog f cargs w fun e w' => ∃ cv G' I', e = .returned cv ∧ VR G' I' v cv ∧ Below w.heap.size w w' := by
 have hcall := sound_call hΓ hB (draw_ok (by kernel_rfl)) hI k f args [] 0 v h' clk hc (fun _ => none) (allImm w) w cargs ha ⟨fun b o v hv => hv, fun i o ho => by simp at ho, fun i j oi oj b hi => by simp at hi⟩ (fun _ _ => rfl)
 refine (calls_of_res hf hb hn hcall).mono fun e w' he => ?_
 obtain ⟨cv, rfl, G', I', hv, hran, _⟩ := he
 exact ⟨cv, G', I', rfl, hv, ⟨hran.fr.os, hran.fr.tape, hran.fr.output, hran.fr.size, fun b hb => hran.fr.kept b hb fun i o hi => by simp at hi⟩⟩
theorem ints_row {w : World} {G : Ghost} {b o : Nat} {zs : List Int} (hc : ∀ i, i < zs.length → w.cell? ⟨b, o + i, none⟩ = some (.int .i64 (zs.getD i 0))) : RowI G (allImm w) (zs.map fun n => .int .i64 n) b o 1 := by
 rw [RowI_iff]
 intro k x hx
 rw [List.getElem?_map] at hx
 cases hz : zs[k]? with
 | none => simp [hz] at hx
 | some z =>
   simp only [hz, Option.map_some, Option.some.injEq] at hx
   subst hx
   refine ⟨rfl, ?_⟩
   have hk := (List.getElem?_eq_some_iff.1 hz).1
   simp only [AV.cells, CellsI_cons, CellsI_nil, and_true]
   refine ⟨.int .i64 z, ?_, by simp [VR]⟩
   have := hc k hk
   simp only [List.getD, hz, Option.getD_some] at this
   rw [Nat.mul_one]
   exact this
def Answers : Prop := ∃ (Γ : AProg) (back : Nat → Option Nat), ProgOk Tryz.prog back Γ ∧ BackOk Tryz.prog back ∧ IterAll Tryz.prog Γ ∧ ∀ zs : List Int, (∀ n ∈ zs, (Lit.int .i64 n).wf = true) → ∃ k h clk, callA Γ k 7 [intsArg zs] [] 0 = some (.bool true, h, clk)
set_option maxRecDepth 100000 in
theorem contract (hA : Answers) (H : Type) (enc : TypeId × Value → H) (W : World) (base : Nat) (args : Array Value) (ds gs : List (DataW H)) (before : List MemPlace)
   (hval : ∀ (j : Nat) t v, Tryz.f7.params[j]? = some t → args[j]? = some v → Value.okWide Tryz.prog W .any base t v)
   (hW : DataW.Whole enc Tryz.prog Tryz.f7.params.toList Rows.sliceAgainSpec.vars false W args.toList ds gs before) :
   Calls Tryz.prog 7 args W fun e W' => ∃ v, e = .returned v ∧ Rows.sliceAgainSpec.post enc Tryz.prog Tryz.f7 false true false false W args v W' := by
 have hW' := hW
 obtain ⟨p, q, hA0, hV, rfl, hfz, hnd⟩ := hW
 have hT : DataW.TrodAll enc Tryz.prog W 0 (fun _ => true) true Tryz.f7.params.toList args.toList ds p := hA0
 rw [Tryz.params7] at hT hval
 obtain ⟨v0, vs0, d0, ds0, p0, q0, hargs, rfl, rfl, h0, r0⟩ := trodAll_cons hT
 obtain ⟨rfl, rfl, rfl⟩ := trodAll_nil r0
 obtain rfl : args = #[v0] := by cases args; simp_all
 obtain ⟨rfl, rfl⟩ := trodVars_none hV
 obtain ⟨a, len, cap, rfl⟩ := okWide_slice Tryz.underlying22 (hval 0 22 v0 rfl rfl)
 have k0 := h0
 have lt0 : ∀ x ∈ p0, x.block < W.heap.size := by obtain ⟨m, hm⟩ := k0; exact DataW.trod_lt m _ _ _ hm
 have hrow : ∃ zs : List Int, (∀ n ∈ zs, (Lit.int .i64 n).wf = true) ∧ VR (fun _ => none) (allImm W) (intsArg zs) (.slice a len cap) := by
   obtain ⟨fuel, hf⟩ := h0
   rcases open_ints Tryz.underlying22 Tryz.underlying3 (by kernel_rfl) hf with ⟨hcs, _⟩ | ⟨x, l, c, zs, hcs, _, hl, hm, hz, _, hcell, hwz⟩
   · simp [Value.cells] at hcs
     obtain ⟨rfl, rfl, rfl⟩ := hcs
     refine ⟨[], fun n hn => by simp at hn, ?_⟩
     simp only [intsArg, VR]
     exact ⟨none, 0, 0, rfl, rfl, Nat.le_refl _, trivial, .inl rfl⟩
   · simp [Value.cells] at hcs
     obtain ⟨rfl, rfl, rfl⟩ := hcs
     refine ⟨zs.take len, fun n hn => hwz n (List.mem_of_mem_take hn), ?_⟩
     have hlen : zs.length = cap := by simpa using hz
     simp only [intsArg, VR]
     refine ⟨some x, len, cap, rfl, by simp; omega, hl, trivial, ?_⟩
     by_cases h0 : len = 0
     · exact .inl h0
     · obtain ⟨b, o, sp⟩ := x
       have hs : sp = none := by
         have := hcell 0 (by omega)
         cases sp with
         | none => rfl
         | some i =>
           simp [World.cell?, Addr.add] at this
           split at this <;> simp at this
       subst hs
       refine .inr ⟨b, o, 1, rfl, by omega, ints_row fun i hi => ?_⟩
       have hi' : i < len := by simp at hi; omega
       have := hcell i (by omega)
       rw [Addr.add_lit] at this
       rw [this]
       simp [List.getD, hi']
 obtain ⟨zs, hwz, hvr⟩ := hrow
 obtain ⟨Γ, back, hΓ, hB, hI, hall⟩ := hA
 obtain ⟨k, h, clk, hc⟩ := hall zs hwz
 refine (calls_of_am hΓ hB hI Tryz.func7 rfl (by decide) hc (cargs := #[.slice a len cap]) (by simp only [VRL]; exact ⟨_, _, rfl, hvr, rfl⟩)).mono fun e W' he => ?_
 obtain ⟨cv, G', I', rfl, hcv, bel⟩ := he
 simp only [VR] at hcv
 subst hcv
 exact ⟨_, rfl, _, _, _, [], _, [], hW', trodAll_mk1 (shut_bool Tryz.underlying4 _), (trodAll_cons_mk (Below.trod laidOut (by kernel_rfl) (of_decide_eq_true (by kernel_rfl)) k0 bel lt0) trodAll_mk0), rfl, bel.frame _, fun h => by cases h⟩
noncomputable def laidWorld (os : Os) : World := World.doorLaid Tryz.prog 4000 os
set_option maxRecDepth 100000 in
theorem laid_met (os : Os) : laidMetH Tryz.prog Rows.sliceAgainRow.laid ((laidWorld os).forCall (fun _ _ => 0) ⟨#[], #[.slice none 0 0], []⟩).memory :=
 laidMetH_of_parts3 (fuel := 8) (laidMet_of_run' 8 (by kernel_rfl) (by kernel_rfl)) (by kernel_rfl) (by kernel_rfl)
set_option maxRecDepth 100000 in
theorem reads (os : Os) {H : Type} (enc : TypeId × Value → H) : ∃ places, DataW.whole enc Tryz.prog ((laidWorld os).forCall (fun _ _ => 0) ⟨#[], #[.slice none 0 0], []⟩).memory Tryz.f7.params.toList Rows.sliceAgainSpec.vars false #[Value.slice none 0 0].toList 8 = some ([.nil], [], places) :=
 ⟨[], by kernel_rfl⟩
set_option maxRecDepth 100000 in
theorem lifted (hA : Answers) (os : Os) (started : os.Started) (H : Type) (enc : TypeId × Value → H) (F : Stop.Interp) :
   ReturnsInHanded {} Tryz.checked os 7 .any ((OpenSpec.ofChange Rows.sliceAgainSpec).preRow enc Tryz.prog Tryz.f7 Rows.sliceAgainRow.domain false Rows.sliceAgainRow.laid) (((OpenSpec.ofChange Rows.sliceAgainSpec).at F).post enc Tryz.prog Tryz.f7 false true false false) := by
 obtain ⟨places, hx⟩ := reads os enc
 refine returnsInHanded_of_row (C := Tryz.checked) (s := OpenSpec.ofChange Rows.sliceAgainSpec) own_knob started (by kernel_rfl) Tryz.func7
   (witness_row_atRef (enc := enc) (C := Tryz.checked) false (laidWorld os) #[.slice none 0 0] rfl (by kernel_rfl) (by kernel_rfl) (by kernel_rfl)
     (OpenSpec.preRow_of_cond 8 hx (by kernel_rfl) (fun k hk => by cases hk) (by kernel_rfl) (laid_met os))) ?_
 intro W base args ds gs before hval hW _ _ _ hL _ _
 exact contract hA H enc W base args ds gs before hval hW
end Go.Proofs.YtbeooboebfbchaaGreatDoor.Am
