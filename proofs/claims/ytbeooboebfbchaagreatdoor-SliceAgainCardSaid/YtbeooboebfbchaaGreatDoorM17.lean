/- Programs whose functions are told by tables. What the functions answer that awake calls (printed by genL.py). -/
import Derived.Test.YtbeooboebfbchaaGreatDoorM16
set_option linter.unusedVariables false
set_option linter.unusedSimpArgs false
namespace Go.Proofs.YtbeooboebfbchaaGreatDoor.Am
open Go
set_option maxRecDepth 100000
noncomputable def GamT (T : List (Nat × List (List AV × AV))) : AProg where
 fn f := cFun Tryz.prog backF (hintF f) f
 ext f := match extF f with
   | some sem => some sem
   | none => (T.find? fun p => p.1 == f).map fun p => inTab p.2
 iters := [259]
theorem Gam_eq : Gam = GamT tabs := rfl
theorem iterT {T : List (Nat × List (List AV × AV))} : IterAll Tryz.prog (GamT T) := by
 intro k hk
 obtain rfl : k = 259 := by simpa [GamT] using hk
 exact ⟨iter_ints, fun args w => callFunc_enter Tryz.func259 rfl (by decide)⟩
def Told (T : List (Nat × List (List AV × AV))) : Prop := ∀ p ∈ T, told Tryz.prog p.1 (inTab p.2)
theorem progT {T : List (Nat × List (List AV × AV))} (h : Told T) : ProgOk Tryz.prog backF (GamT T) := by
 refine ⟨fun f af h => ⟨_, h⟩, fun f sem hs => ?_⟩
 have main : told Tryz.prog f sem := by
   simp only [GamT, extF] at hs
   split at hs
   · rename_i he
     injection hs with hs
     subst hs
     split at he
     · rename_i h1; injection he with he; subst h1; subst he; exact told77
     split at he
     · rename_i h1; injection he with he; subst h1; subst he; exact told78
     split at he
     · rename_i h1; injection he with he; subst h1; subst he; exact told79
     split at he
     · rename_i h1; injection he with he; subst h1; subst he; exact told303
     · cases he
   · rw [Option.map_eq_some_iff] at hs
     obtain ⟨p, hp, rfl⟩ := hs
     have h1 : p.1 = f := by simpa using List.find?_some hp
     subst h1
     exact h p (List.mem_of_find?_eq_some hp)
 exact main
def Borne (T : List (Nat × List (List AV × AV))) (f : Nat) (t : List (List AV × AV)) : Prop := ∀ q ∈ t, ∃ k, chk (GamT T) k f q = true
theorem Borne.nil {T : List (Nat × List (List AV × AV))} {f : Nat} : Borne T f [] := fun q hq => by cases hq
theorem Borne.cons {T : List (Nat × List (List AV × AV))} {f k : Nat} {q : List AV × AV} {t : List (List AV × AV)} (h : chk (GamT T) k f q = true) (ht : Borne T f t) : Borne T f (q :: t) := fun p hp => by
 rcases List.mem_cons.1 hp with rfl | hp
 · exact ⟨k, h⟩
 · exact ht p hp
theorem Borne.told {T : List (Nat × List (List AV × AV))} {f : Nat} {t : List (List AV × AV)} (hT : Told T) (h : Borne T f t) : told Tryz.prog f (inTab t) := told_tab (progT hT) backOk (draw_ok (by kernel_rfl)) iterT h
theorem told_nil : Told [] := fun p hp => by cases hp
theorem Told.snoc {T : List (Nat × List (List AV × AV))} {f : Nat} {t : List (List AV × AV)} (hT : Told T) (h : Am.told Tryz.prog f (inTab t)) : Told ((f, t) :: T) := fun p hp => by
 rcases List.mem_cons.1 hp with rfl | hp
 · exact h
 · exact hT p hp
section
namespace Tw
def c0 : AV := (.str [40, 100, 101, 99, 108, 97, 114, 101, 45, 102, 117, 110, 32, 80, 32, 40, 73, 110, 116, 41, 32, 66, 111, 111, 108, 41, 40, 100, 101, 99, 108, 97, 114, 101, 45, 102, 117, 110, 32, 81, 32, 40, 73, 110, 116, 41, 32, 66, 111, 111, 108, 41, 40, 97, 115, 115, 101, 114, 116, 32, 40, 80, 32, 48, 41, 41, 32, 40, 97, 115, 115, 101, 114, 116, 32, 40, 102, 111, 114, 97, 108, 108, 32, 40, 40, 120, 32, 73, 110, 116, 41, 41, 32, 40, 61, 62, 32, 40, 80, 32, 120, 41, 32, 40, 81, 32, 120, 41, 41, 41, 41, 32, 40, 97, 115, 115, 101, 114, 116, 32, 40, 102, 111, 114, 97, 108, 108, 32, 40, 40, 120, 32, 73, 110, 116, 41, 41, 32, 40, 61, 62, 32, 40, 97, 110, 100, 32, 40, 80, 32, 120, 41, 32, 40, 60, 32, 120, 32, 48, 41, 41, 32, 102, 97, 108, 115, 101, 41, 41, 41])
def c1 : AV := .agg [(.int .i64 5), (.str []), (.int .i64 4), (.int .i64 0)]
def c2 : AV := (.str [100, 101, 99, 108, 97, 114, 101, 45, 102, 117, 110])
def c3 : AV := .agg [(.int .i64 1), c2, (.int .i64 0), (.int .i64 1)]
def c4 : AV := .agg [(.int .i64 1), (.str [80]), (.int .i64 0), (.int .i64 13)]
def c5 : AV := .agg [(.int .i64 5), (.str []), (.int .i64 1), (.int .i64 15)]
def c6 : AV := .agg [(.int .i64 1), (.str [73, 110, 116]), (.int .i64 0), (.int .i64 16)]
def c7 : AV := (.str [66, 111, 111, 108])
def c8 : AV := .agg [(.int .i64 1), c7, (.int .i64 0), (.int .i64 21)]
def c9 : AV := .agg [(.int .i64 5), (.str []), (.int .i64 4), (.int .i64 26)]
def c10 : AV := .agg [(.int .i64 1), c2, (.int .i64 0), (.int .i64 27)]
def c11 : AV := .agg [(.int .i64 1), (.str [81]), (.int .i64 0), (.int .i64 39)]
def c12 : AV := .agg [(.int .i64 5), (.str []), (.int .i64 1), (.int .i64 41)]
def c13 : AV := .agg [(.int .i64 1), (.str [73, 110, 116]), (.int .i64 0), (.int .i64 42)]
def c14 : AV := .agg [(.int .i64 1), c7, (.int .i64 0), (.int .i64 47)]
def c15 : AV := .agg [(.int .i64 5), (.str []), (.int .i64 2), (.int .i64 52)]
def c16 : AV := (.str [97, 115, 115, 101, 114, 116])
def c17 : AV := .agg [(.int .i64 1), c16, (.int .i64 0), (.int .i64 53)]
def c18 : AV := .agg [(.int .i64 5), (.str []), (.int .i64 2), (.int .i64 60)]
def c19 : AV := .agg [(.int .i64 1), (.str [80]), (.int .i64 0), (.int .i64 61)]
def c20 : AV := .agg [(.int .i64 2), (.str [48]), (.int .i64 0), (.int .i64 63)]
def c21 : AV := .agg [(.int .i64 5), (.str []), (.int .i64 2), (.int .i64 67)]
def c22 : AV := .agg [(.int .i64 1), c16, (.int .i64 0), (.int .i64 68)]
def c23 : AV := .agg [(.int .i64 5), (.str []), (.int .i64 3), (.int .i64 75)]
def c24 : AV := (.str [102, 111, 114, 97, 108, 108])
def c25 : AV := .agg [(.int .i64 1), c24, (.int .i64 0), (.int .i64 76)]
def c26 : AV := .agg [(.int .i64 5), (.str []), (.int .i64 1), (.int .i64 83)]
def c27 : AV := .agg [(.int .i64 5), (.str []), (.int .i64 2), (.int .i64 84)]
def c28 : AV := .agg [(.int .i64 1), (.str [120]), (.int .i64 0), (.int .i64 85)]
def c29 : AV := .agg [(.int .i64 1), (.str [73, 110, 116]), (.int .i64 0), (.int .i64 87)]
def c30 : AV := .agg [(.int .i64 5), (.str []), (.int .i64 3), (.int .i64 93)]
def c31 : AV := .agg [(.int .i64 1), (.str [61, 62]), (.int .i64 0), (.int .i64 94)]
def c32 : AV := .agg [(.int .i64 5), (.str []), (.int .i64 2), (.int .i64 97)]
def c33 : AV := .agg [(.int .i64 1), (.str [80]), (.int .i64 0), (.int .i64 98)]
def c34 : AV := .agg [(.int .i64 1), (.str [120]), (.int .i64 0), (.int .i64 100)]
def c35 : AV := .agg [(.int .i64 5), (.str []), (.int .i64 2), (.int .i64 103)]
def c36 : AV := .agg [(.int .i64 1), (.str [81]), (.int .i64 0), (.int .i64 104)]
def c37 : AV := .agg [(.int .i64 1), (.str [120]), (.int .i64 0), (.int .i64 106)]
def c38 : AV := .agg [(.int .i64 5), (.str []), (.int .i64 2), (.int .i64 112)]
def c39 : AV := .agg [(.int .i64 1), c16, (.int .i64 0), (.int .i64 113)]
def c40 : AV := .agg [(.int .i64 5), (.str []), (.int .i64 3), (.int .i64 120)]
def c41 : AV := .agg [(.int .i64 1), c24, (.int .i64 0), (.int .i64 121)]
def c42 : AV := .agg [(.int .i64 5), (.str []), (.int .i64 1), (.int .i64 128)]
def c43 : AV := .agg [(.int .i64 5), (.str []), (.int .i64 2), (.int .i64 129)]
def c44 : AV := .agg [(.int .i64 1), (.str [120]), (.int .i64 0), (.int .i64 130)]
def c45 : AV := .agg [(.int .i64 1), (.str [73, 110, 116]), (.int .i64 0), (.int .i64 132)]
def c46 : AV := .agg [(.int .i64 5), (.str []), (.int .i64 3), (.int .i64 138)]
def c47 : AV := .agg [(.int .i64 1), (.str [61, 62]), (.int .i64 0), (.int .i64 139)]
def c48 : AV := .agg [(.int .i64 5), (.str []), (.int .i64 3), (.int .i64 142)]
def c49 : AV := .agg [(.int .i64 1), (.str [97, 110, 100]), (.int .i64 0), (.int .i64 143)]
def c50 : AV := .agg [(.int .i64 5), (.str []), (.int .i64 2), (.int .i64 147)]
def c51 : AV := .agg [(.int .i64 1), (.str [80]), (.int .i64 0), (.int .i64 148)]
def c52 : AV := .agg [(.int .i64 1), (.str [120]), (.int .i64 0), (.int .i64 150)]
def c53 : AV := .agg [(.int .i64 5), (.str []), (.int .i64 3), (.int .i64 153)]
def c54 : AV := .agg [(.int .i64 1), (.str [60]), (.int .i64 0), (.int .i64 154)]
def c55 : AV := .agg [(.int .i64 1), (.str [120]), (.int .i64 0), (.int .i64 156)]
def c56 : AV := .agg [(.int .i64 2), (.str [48]), (.int .i64 0), (.int .i64 158)]
def c57 : AV := (.str [102, 97, 108, 115, 101])
def c58 : AV := .agg [(.int .i64 1), c57, (.int .i64 0), (.int .i64 162)]
def c59 : AV := .sl [c1, c3, c4, c5, c6, c8, c9, c10, c11, c12, c13, c14, c15, c17, c18, c19, c20, c21, c22, c23, c25, c26, c27, c28, c29, c30, c31, c32, c33, c34, c35, c36, c37, c38, c39, c40, c41, c42, c43, c44, c45, c46, c47, c48, c49, c50, c51, c52, c53, c54, c55, c56, c58] .no
def c60 : AV := .tup [c59, (.int .i64 0), (.int .i64 0)]
def c61 : AV := .sl [(.int .i64 0), (.int .i64 6), (.int .i64 12), (.int .i64 17), (.int .i64 33)] .no
def c62 : AV := .sl [(.int .i64 1), (.int .i64 2), (.int .i64 3), (.int .i64 5)] .no
def c63 : AV := .sl [(.int .i64 7), (.int .i64 8), (.int .i64 9), (.int .i64 11)] .no
def c64 : AV := .sl [(.int .i64 13), (.int .i64 14)] .no
def c65 : AV := .sl [(.int .i64 15), (.int .i64 16)] .no
def c66 : AV := .agg [(.int .i64 3), (.int .i64 2), (.str []), (.str [48]), (.int .i64 0)]
def c67 : AV := .sl [c66] .no
def c68 : AV := .agg [(.int .i64 5), (.int .i64 1), (.str [80]), (.str []), (.int .i64 0)]
def c69 : AV := .sl [c67] .no
def c70 : AV := .agg [(.int .i64 5), (.int .i64 1), (.str [80]), (.str []), (.int .i64 1)]
def c71 : AV := .sl [c70, c66] .no
def c72 : AV := .tup [c71, (.int .i64 0)]
def c73 : AV := .agg [(.str [80]), (.sl [(.int .i64 2)] .no), (.int .i64 1)]
def c74 : AV := .agg [(.str [81]), (.sl [(.int .i64 2)] .no), (.int .i64 1)]
def c75 : AV := .sl [c73, c74] .no
def c76 : AV := .tup [c71, (.int .i64 0), (.int .i64 0)]
def c77 : AV := .agg [(.int .i64 1), (.int .i64 0), (.str []), (.str []), (.int .i64 0)]
def c78 : AV := .sl [c77] .no
def c79 : AV := .agg [(.sl [] .no), (.sl [] .no), c78, (.str [80]), c69]
def c80 : AV := .sl [c79] .no
def c81 : AV := .agg [c75, c80]
def c82 : AV := .sl [(.int .i64 18), (.int .i64 19)] .no
def c83 : AV := .sl [(.int .i64 20), (.int .i64 21), (.int .i64 25)] .no
def c84 : AV := .sl [(.int .i64 23), (.int .i64 24)] .no
def c85 : AV := .agg [(.str [120]), (.int .i64 2)]
def c86 : AV := .sl [c85] .no
def c87 : AV := .tup [c86, (.int .i64 0)]
def c88 : AV := .sl [(.int .i64 26), (.int .i64 27), (.int .i64 30)] .no
def c89 : AV := .sl [(.int .i64 28), (.int .i64 29)] .no
def c90 : AV := .agg [(.int .i64 4), (.int .i64 2), (.str [120]), (.str []), (.int .i64 0)]
def c91 : AV := .sl [c90] .no
def c92 : AV := .sl [c91] .no
def c93 : AV := .sl [c70, c90] .no
def c94 : AV := .tup [c93, (.int .i64 0)]
def c95 : AV := .sl [(.int .i64 31), (.int .i64 32)] .no
def c96 : AV := .agg [(.int .i64 5), (.int .i64 1), (.str [81]), (.str []), (.int .i64 0)]
def c97 : AV := .agg [(.int .i64 5), (.int .i64 1), (.str [81]), (.str []), (.int .i64 1)]
def c98 : AV := .sl [c97, c90] .no
def c99 : AV := .tup [c98, (.int .i64 0)]
def c100 : AV := .agg [(.int .i64 9), (.int .i64 0), (.str []), (.str []), (.int .i64 0)]
def c101 : AV := .sl [c93, c98] .no
def c102 : AV := .agg [(.int .i64 9), (.int .i64 0), (.str []), (.str []), (.int .i64 2)]
def c103 : AV := .sl [c102, c70, c90, c97, c90] .no
def c104 : AV := .tup [c103, (.int .i64 0)]
def c105 : AV := .tup [c103, (.int .i64 0), (.int .i64 0)]
def c106 : AV := .agg [(.str [80]), c92]
def c107 : AV := .sl [c106] .no
def c108 : AV := .agg [c86, c107, c78, (.str [81]), c92]
def c109 : AV := .sl [c108] .no
def c110 : AV := .agg [c75, c109]
def c111 : AV := .sl [(.int .i64 34), (.int .i64 35)] .no
def c112 : AV := .sl [(.int .i64 36), (.int .i64 37), (.int .i64 41)] .no
def c113 : AV := .sl [(.int .i64 39), (.int .i64 40)] .no
def c114 : AV := .sl [(.int .i64 42), (.int .i64 43), (.int .i64 52)] .no
def c115 : AV := .sl [(.int .i64 44), (.int .i64 45), (.int .i64 48)] .no
def c116 : AV := .sl [(.int .i64 46), (.int .i64 47)] .no
def c117 : AV := .sl [(.int .i64 49), (.int .i64 50), (.int .i64 51)] .no
def c118 : AV := .agg [(.int .i64 13), (.int .i64 0), (.str []), (.str []), (.int .i64 0)]
def c119 : AV := .sl [c91, c67] .no
def c120 : AV := .agg [(.int .i64 13), (.int .i64 0), (.str []), (.str []), (.int .i64 2)]
def c121 : AV := .sl [c120, c90, c66] .no
def c122 : AV := .tup [c121, (.int .i64 0)]
def c123 : AV := .agg [(.int .i64 7), (.int .i64 0), (.str []), (.str []), (.int .i64 0)]
def c124 : AV := .sl [c93, c121] .no
def c125 : AV := .agg [(.int .i64 7), (.int .i64 0), (.str []), (.str []), (.int .i64 2)]
def c126 : AV := .sl [c125, c70, c90, c120, c90, c66] .no
def c127 : AV := .tup [c126, (.int .i64 0)]
def c128 : AV := .agg [(.int .i64 2), (.int .i64 0), (.str []), (.str []), (.int .i64 0)]
def c129 : AV := .sl [c128] .no
def c130 : AV := .sl [c126, c129] .no
def c131 : AV := .sl [c102, c125, c70, c90, c120, c90, c66, c128] .no
def c132 : AV := .tup [c131, (.int .i64 0)]
def c133 : AV := .tup [c131, (.int .i64 0), (.int .i64 0)]
def c134 : AV := .agg [c86, c107, c121, (.str []), (.sl [] .no)]
def c135 : AV := .sl [c134] .no
def c136 : AV := .agg [c75, c135]
def c137 : AV := .sl [c79, c108, c134] .no
def c138 : AV := .agg [c75, c137]
def c139 : AV := .agg [(.int .i64 2), (.str []), (.str []), (.int .i64 0), (.int .i64 0), (.sl [(.str [81])] .no), (.sl [] .no), (.sl [] .no)]
def c140 : AV := .tup [c139, (.int .i64 0)]
def c141 : AV := .sl [c73] .no
def c142 : AV := .sl [c79, c134] .no
def c143 : AV := .agg [c141, c142]
def c144 : AV := .tup [c143, (.int .i64 0)]
def r54_0 : List AV × AV := ([c0], c60)
def t54 : List (List AV × AV) := [r54_0]
def r55_0 : List AV × AV := ([c59], c61)
def t55 : List (List AV × AV) := [r55_0]
def r56_0 : List AV × AV := ([c59, (.int .i64 0)], c62)
def r56_1 : List AV × AV := ([c59, (.int .i64 3)], (.sl [(.int .i64 4)] .no))
def r56_2 : List AV × AV := ([c59, (.int .i64 6)], c63)
def r56_3 : List AV × AV := ([c59, (.int .i64 9)], (.sl [(.int .i64 10)] .no))
def r56_4 : List AV × AV := ([c59, (.int .i64 12)], c64)
def r56_5 : List AV × AV := ([c59, (.int .i64 14)], c65)
def r56_6 : List AV × AV := ([c59, (.int .i64 17)], c82)
def r56_7 : List AV × AV := ([c59, (.int .i64 19)], c83)
def r56_8 : List AV × AV := ([c59, (.int .i64 21)], (.sl [(.int .i64 22)] .no))
def r56_9 : List AV × AV := ([c59, (.int .i64 22)], c84)
def r56_10 : List AV × AV := ([c59, (.int .i64 25)], c88)
def r56_11 : List AV × AV := ([c59, (.int .i64 27)], c89)
def r56_12 : List AV × AV := ([c59, (.int .i64 30)], c95)
def r56_13 : List AV × AV := ([c59, (.int .i64 33)], c111)
def r56_14 : List AV × AV := ([c59, (.int .i64 35)], c112)
def r56_15 : List AV × AV := ([c59, (.int .i64 37)], (.sl [(.int .i64 38)] .no))
def r56_16 : List AV × AV := ([c59, (.int .i64 38)], c113)
def r56_17 : List AV × AV := ([c59, (.int .i64 41)], c114)
def r56_18 : List AV × AV := ([c59, (.int .i64 43)], c115)
def r56_19 : List AV × AV := ([c59, (.int .i64 45)], c116)
def r56_20 : List AV × AV := ([c59, (.int .i64 48)], c117)
def t56 : List (List AV × AV) := [r56_0, r56_1, r56_2, r56_3, r56_4, r56_5, r56_6, r56_7, r56_8, r56_9, r56_10, r56_11, r56_12, r56_13, r56_14, r56_15, r56_16, r56_17, r56_18, r56_19, r56_20]
def r111_0 : List AV × AV := ([c67], (.int .i64 2))
def r111_1 : List AV × AV := ([c71], (.int .i64 1))
def r111_2 : List AV × AV := ([c78], (.int .i64 1))
def r111_3 : List AV × AV := ([c91], (.int .i64 2))
def r111_4 : List AV × AV := ([c93], (.int .i64 1))
def r111_5 : List AV × AV := ([c98], (.int .i64 1))
def r111_6 : List AV × AV := ([c103], (.int .i64 1))
def r111_7 : List AV × AV := ([c121], (.int .i64 1))
def r111_8 : List AV × AV := ([c126], (.int .i64 1))
def r111_9 : List AV × AV := ([c129], (.int .i64 1))
def r111_10 : List AV × AV := ([c131], (.int .i64 1))
def t111 : List (List AV × AV) := [r111_0, r111_1, r111_2, r111_3, r111_4, r111_5, r111_6, r111_7, r111_8, r111_9, r111_10]
def r21_0 : List AV × AV := ([c138], c140)
def t21 : List (List AV × AV) := [r21_0]
def r24_0 : List AV × AV := ([c138, c139], c144)
def t24 : List (List AV × AV) := [r24_0]
def r223_0 : List AV × AV := ([c68, c69], c72)
def r223_1 : List AV × AV := ([c68, c92], c94)
def r223_2 : List AV × AV := ([c96, c92], c99)
def r223_3 : List AV × AV := ([c100, c101], c104)
def r223_4 : List AV × AV := ([c118, c119], c122)
def r223_5 : List AV × AV := ([c123, c124], c127)
def r223_6 : List AV × AV := ([c100, c130], c132)
def t223 : List (List AV × AV) := [r223_0, r223_1, r223_2, r223_3, r223_4, r223_5, r223_6]
def r108_0 : List AV × AV := ([c59, (.int .i64 21)], c87)
def r108_1 : List AV × AV := ([c59, (.int .i64 37)], c87)
def t108 : List (List AV × AV) := [r108_0, r108_1]
def r28_0 : List AV × AV := ([c81], (.bool true))
def r28_1 : List AV × AV := ([c110], (.bool true))
def r28_2 : List AV × AV := ([c136], (.bool true))
def r28_3 : List AV × AV := ([c143], (.bool true))
def t28 : List (List AV × AV) := [r28_0, r28_1, r28_2, r28_3]
def r110_0 : List AV × AV := ([c59, (.int .i64 14), (.sl [] .no), c75], c76)
def r110_1 : List AV × AV := ([c59, (.int .i64 25), c86, c75], c105)
def r110_2 : List AV × AV := ([c59, (.int .i64 41), c86, c75], c133)
def t110 : List (List AV × AV) := [r110_0, r110_1, r110_2]
end Tw
open Tw
def tw1 : List (Nat × List (List AV × AV)) := (54, t54) :: (55, t55) :: (56, t56) :: (111, t111) :: (21, t21) :: (24, t24) :: []
def tw2 : List (Nat × List (List AV × AV)) := (223, t223) :: (108, t108) :: (28, t28) :: tw1
def tw3 : List (Nat × List (List AV × AV)) := (110, t110) :: tw2
end
end Go.Proofs.YtbeooboebfbchaaGreatDoor.Am
