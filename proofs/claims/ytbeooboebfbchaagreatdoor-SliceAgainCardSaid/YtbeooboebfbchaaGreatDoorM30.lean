/- All tables are borne out (printed by genL.py). Short forms of operations, for the printed functions. Functions of the abstract machine's program (printed). -/
import Derived.Attr
import Derived.Test.YtbeooboebfbchaaGreatDoorM18
import Derived.Test.YtbeooboebfbchaaGreatDoorM19
import Derived.Test.YtbeooboebfbchaaGreatDoorM20
import Derived.Test.YtbeooboebfbchaaGreatDoorM21
import Derived.Test.YtbeooboebfbchaaGreatDoorM22
import Derived.Test.YtbeooboebfbchaaGreatDoorM24
import Derived.Test.YtbeooboebfbchaaGreatDoorM25
import Derived.Test.YtbeooboebfbchaaGreatDoorM26
import Derived.Test.YtbeooboebfbchaaGreatDoorM27
import Derived.Test.YtbeooboebfbchaaGreatDoorM28
import Derived.Test.YtbeooboebfbchaaGreatDoorM29
set_option linter.unusedVariables false
set_option linter.unusedSimpArgs false
namespace Go.Proofs.YtbeooboebfbchaaGreatDoor.Am
open Go
set_option maxRecDepth 100000
section
open Tw
theorem b54 : Borne [] 54 t54 := .cons k54_0 (.nil)
theorem b55 : Borne [] 55 t55 := .cons k55_0 (.nil)
theorem b56 : Borne [] 56 t56 := .cons k56_0 (.cons k56_1 (.cons k56_2 (.cons k56_3 (.cons k56_4 (.cons k56_5 (.cons k56_6 (.cons k56_7 (.cons k56_8 (.cons k56_9 (.cons k56_10 (.cons k56_11 (.cons k56_12 (.cons k56_13 (.cons k56_14 (.cons k56_15 (.cons k56_16 (.cons k56_17 (.cons k56_18 (.cons k56_19 (.cons k56_20 (.nil)))))))))))))))))))))
theorem b111 : Borne [] 111 t111 := .cons k111_0 (.cons k111_1 (.cons k111_2 (.cons k111_3 (.cons k111_4 (.cons k111_5 (.cons k111_6 (.cons k111_7 (.cons k111_8 (.cons k111_9 (.cons k111_10 (.nil)))))))))))
theorem b21 : Borne [] 21 t21 := .cons k21_0 (.nil)
theorem b24 : Borne [] 24 t24 := .cons k24_0 (.nil)
theorem told1 : Told tw1 := ((((((told_nil).snoc (b24.told told_nil)).snoc (b21.told told_nil)).snoc (b111.told told_nil)).snoc (b56.told told_nil)).snoc (b55.told told_nil)).snoc (b54.told told_nil)
theorem b223 : Borne tw1 223 t223 := .cons k223_0 (.cons k223_1 (.cons k223_2 (.cons k223_3 (.cons k223_4 (.cons k223_5 (.cons k223_6 (.nil)))))))
theorem b108 : Borne tw1 108 t108 := .cons k108_0 (.cons k108_1 (.nil))
theorem b28 : Borne tw1 28 t28 := .cons k28_0 (.cons k28_1 (.cons k28_2 (.cons k28_3 (.nil))))
theorem told2 : Told tw2 := (((told1).snoc (b28.told told1)).snoc (b108.told told1)).snoc (b223.told told1)
theorem b110 : Borne tw2 110 t110 := .cons k110_0 (.cons k110_1 (.cons k110_2 (.nil)))
theorem told3 : Told tw3 := (told2).snoc (b110.told told2)
theorem b73 : Borne [] 73 tab73 := .chunks (n := 27) (m := 1) (by decide) (by decide) fun i hi => match i, hi with
 | 0, _ => k73_0
 | 1, _ => k73_1
 | 2, _ => k73_2
 | 3, _ => k73_3
 | 4, _ => k73_4
 | 5, _ => k73_5
 | 6, _ => k73_6
 | 7, _ => k73_7
 | 8, _ => k73_8
 | 9, _ => k73_9
 | 10, _ => k73_10
 | 11, _ => k73_11
 | 12, _ => k73_12
 | 13, _ => k73_13
 | 14, _ => k73_14
 | 15, _ => k73_15
 | 16, _ => k73_16
 | 17, _ => k73_17
 | 18, _ => k73_18
 | 19, _ => k73_19
 | 20, _ => k73_20
 | 21, _ => k73_21
 | 22, _ => k73_22
 | 23, _ => k73_23
 | 24, _ => k73_24
 | 25, _ => k73_25
 | 26, _ => k73_26
 | n + 27, h => absurd h (by omega)
theorem b188 : Borne [] 188 tab188 := .chunks (n := 35) (m := 1) (by decide) (by decide) fun i hi => match i, hi with
 | 0, _ => k188_0
 | 1, _ => k188_1
 | 2, _ => k188_2
 | 3, _ => k188_3
 | 4, _ => k188_4
 | 5, _ => k188_5
 | 6, _ => k188_6
 | 7, _ => k188_7
 | 8, _ => k188_8
 | 9, _ => k188_9
 | 10, _ => k188_10
 | 11, _ => k188_11
 | 12, _ => k188_12
 | 13, _ => k188_13
 | 14, _ => k188_14
 | 15, _ => k188_15
 | 16, _ => k188_16
 | 17, _ => k188_17
 | 18, _ => k188_18
 | 19, _ => k188_19
 | 20, _ => k188_20
 | 21, _ => k188_21
 | 22, _ => k188_22
 | 23, _ => k188_23
 | 24, _ => k188_24
 | 25, _ => k188_25
 | 26, _ => k188_26
 | 27, _ => k188_27
 | 28, _ => k188_28
 | 29, _ => k188_29
 | 30, _ => k188_30
 | 31, _ => k188_31
 | 32, _ => k188_32
 | 33, _ => k188_33
 | 34, _ => k188_34
 | n + 35, h => absurd h (by omega)
theorem toldTabs : Told tabs := (((((((told_nil).snoc ((Borne.cons k19 .nil).told told3)).snoc (ok96.told told_nil)).snoc (ok119.told told_nil)).snoc (ok51.told told_nil)).snoc (ok167.told told_nil)).snoc (b188.told told_nil)).snoc (b73.told told_nil)
theorem progGam : ProgOk Tryz.prog backF Gam := progT (T := tabs) toldTabs
theorem iterGam : IterAll Tryz.prog Gam := iterT (T := tabs)
end
namespace Sh
@[go_sem] def M (d s : Nat) : AOper := ⟨some d, .move (.tmp s), none⟩
@[go_sem] def N (d : Nat) (o : AOp) : AOper := ⟨some d, o, none⟩
@[go_sem] def U (d : Nat) (o : AOp) (g : Nat) : AOper := ⟨some d, o, some (g, false)⟩
@[go_sem] def V (d : Nat) (o : AOp) (g : Nat) : AOper := ⟨some d, o, some (g, true)⟩
@[go_sem] def A (d s o : Nat) : AOper := ⟨some d, .fieldAddr (.tmp s) o, none⟩
@[go_sem] def L (d s : Nat) : AOper := ⟨some d, .load none (.tmp s), none⟩
@[go_sem] def S (n a b : Nat) : AOper := ⟨none, .store n (.tmp a) (.tmp b), none⟩
@[go_sem] def E (d s o : Nat) : AOper := ⟨some d, .extract (.tmp s) o, none⟩
@[go_sem] def I (n : Int) : AOpd := .const (.int .i64 n)
end Sh
end Go.Proofs.YtbeooboebfbchaaGreatDoor.Am
namespace Go.Proofs.YtbeooboebfbchaaGreatDoor.Am
open Go Sh
set_option maxRecDepth 100000
def c26_0 : ACode := (.seq (.seq (.region 6 [M 17 5, N 18 (.binOp .gtr (.one .int) (.tmp 17) (I 0)), M 19 18, V 20 (.move (.tmp 3)) 19, V 21 (.call 52 [.tmp 20]) 19, N 22 (.pick (.tmp 19) (.tmp 21) (.const (.bool false)))] []) (.cond (.tmp 22) .skip (.exit 0))) (.seq (.block 1 (.region 13 [A 25 4 1, L 26 25, M 27 3, A 28 4 0, L 29 28, M 30 3, N 31 (.call 30 [(.tmp 30), (I 4)]), N 32 (.binOp .eql (.one .int) (.tmp 31) (I 0)), N 33 (.call 53 [(.tmp 27), (.tmp 29), (.tmp 32)]), N 34 (.buildSlice 2 false (.agg [(.sl [] .nil), (.sl [] .nil), (.sl [] .nil), (.str []), (.sl [] .nil)]) 1 [(0, (.tmp 33))]), N 35 (.append 3 5 112 false (.tmp 26) (.tmp 34)), A 36 4 1, S 1 36 35] [(1, 6), (4, 6), (1, 8), (1, 9)])) (.region 3 [M 23 5, N 24 (.binOp .sub (.one .int) (.tmp 23) (I 1)), M 5 24] [])))
def af26 : AFun :=
 { ntmps := 38, nslots := 4, results := [.cell 2 (some 2)], byref := [], owned := false,
   body := (.seq (.region 1 [N 2 (.alloc 0 (.agg [(.sl [] .nil), (.sl [] .nil)]))] []) (.seq (.region 3 [M 6 0, N 7 (.call 29 [.tmp 6]), M 3 7] []) (.seq (.region 8 [N 8 (.call 51 []), M 9 3, N 10 (.call 30 [(.tmp 9), (I 4)]), N 11 (.binOp .add (.one .int) (I 2) (.tmp 10)), N 12 (.slice (some 3) (.tmp 8) none (some (.tmp 11)) none), N 13 (.build [(.sl [] .nil), (.sl [] .nil)] [(0, 1, (.tmp 12))]), N 4 (.alloc 1 (.agg [(.sl [] .nil), (.sl [] .nil)])), S 2 4 13] []) (.seq (.seq (.region 4 [M 14 3, N 15 (.call 30 [(.tmp 14), (I 8)]), N 16 (.binOp .add (.one .int) (I 1) (.tmp 15)), M 5 16] []) (.block 0 (.loop c26_0))) (.seq (.region 2 [N 37 (.load (some 2) (.tmp 4)), S 2 2 37] []) .ret))))) }
theorem fn26 : Gam.fn 26 = some af26 := by kernel_rfl
def af29 : AFun :=
 { ntmps := 10, nslots := 1, results := [.tmp 2], byref := [], owned := false,
   body := (.seq (.region 1 [N 2 (.move (.const .nilptr))] []) (.seq (.region 8 [M 3 0, M 4 0, N 5 (.len .sl (.tmp 4)), N 6 (.minmax false (.tmp 5) (I 400)), N 7 (.slice (some 1) (.tmp 3) none (some (.tmp 6)) none), N 8 (.build [(.sl [] .nil), (.int .i64 0)] [(0, 1, (.tmp 7))]), N 9 (.box 0 (.tmp 8)), M 2 9] []) .ret)) }
theorem fn29 : Gam.fn 29 = some af29 := by kernel_rfl
def af30 : AFun :=
 { ntmps := 35, nslots := 0, results := [.tmp 4], byref := [], owned := false,
   body := (.seq (.region 1 [N 4 (.move (I 0))] []) (.seq (.seq (.region 10 [M 5 0, N 6 (.nilCheck (.tmp 5)), A 7 6 1, L 8 7, M 9 0, N 10 (.nilCheck (.tmp 9)), A 11 10 0, L 12 11, N 13 (.len .sl (.tmp 12)), N 14 (.binOp .geq (.one .int) (.tmp 8) (.tmp 13))] []) (.cond (.tmp 14) (.seq (.region 1 [N 4 (.move (I 0))] []) .ret) .skip)) (.seq (.region 8 [M 15 0, N 16 (.nilCheck (.tmp 15)), A 17 16 1, L 18 17, N 19 (.binOp .add (.one .int) (.tmp 18) (I 1)), N 20 (.nilCheck (.tmp 15)), A 21 20 1, S 1 21 19] []) (.seq (.region 14 [M 22 0, N 23 (.nilCheck (.tmp 22)), A 24 23 0, L 25 24, M 26 0, N 27 (.nilCheck (.tmp 26)), A 28 27 1, L 29 28, N 30 (.binOp .sub (.one .int) (.tmp 29) (I 1)), N 31 (.indexAddr none 1 (.tmp 25) (.tmp 30)), L 32 31, M 33 1, N 34 (.call 60 [(.tmp 32), (.tmp 33)]), M 4 34] []) .ret)))) }
theorem fn30 : Gam.fn 30 = some af30 := by kernel_rfl
def af36 : AFun :=
 { ntmps := 39, nslots := 2, results := [.cell 4 (some 5)], byref := [], owned := false,
   body := (.seq (.region 1 [N 4 (.alloc 0 (.agg [(.int .i64 0), (.bool false), (.str []), (.sl [] .nil), (.sl [] .nil)]))] []) (.seq (.seq (.region 1 [M 6 1] []) (.block 0 (.seq (.region 2 [N 8 (.binOp .eql (.one .int) (.tmp 6) (I 1)), M 7 8] []) (.cond (.tmp 7) (.seq (.region 6 [M 9 1, M 10 0, N 11 (.call 30 [(.tmp 10), (I 2)]), N 12 (.binOp .eql (.one .int) (.tmp 11) (I 1)), N 13 (.build [(.int .i64 0), (.bool false), (.str []), (.sl [] .nil), (.sl [] .nil)] [(0, 1, (.tmp 9)), (1, 1, (.tmp 12))]), S 5 4 13] []) .ret) (.seq (.region 2 [N 15 (.binOp .eql (.one .int) (.tmp 6) (I 4)), M 14 15] []) (.cond (.tmp 14) (.seq (.region 7 [M 16 1, M 17 0, N 18 (.call 30 [(.tmp 17), (I 3)]), N 19 (.call 72 [.tmp 18]), N 20 (.build [(.int .i64 0), (.bool false), (.str []), (.sl [] .nil), (.sl [] .nil)] [(0, 1, (.tmp 16)), (2, 1, (.tmp 19))]), N 5 (.alloc 1 (.agg [(.int .i64 0), (.bool false), (.str []), (.sl [] .nil), (.sl [] .nil)])), S 5 5 20] []) (.seq (.region 12 [N 22 (.load (some 5) (.tmp 5)), M 23 0, N 24 (.call 30 [(.tmp 23), (I 3)]), N 25 (.call 72 [.tmp 24]), M 26 0, N 27 (.call 30 [(.tmp 26), (I 3)]), N 28 (.call 72 [.tmp 27]), N 29 (.call 73 [(.tmp 22), (.tmp 25), (.tmp 28)]), M 21 29, E 30 21 0, E 31 21 1, S 5 5 30] [(0, 2), (0, 3), (0, 5), (0, 6)]) (.seq (.region 2 [N 32 (.load (some 5) (.tmp 5)), S 5 4 32] []) .ret))) .skip)))))) (.seq (.region 7 [M 33 1, M 34 0, N 35 (.call 30 [(.tmp 34), (I 6)]), N 36 (.binOp .sub (.one .int) (.tmp 35) (I 2)), N 37 (.call 72 [.tmp 36]), N 38 (.build [(.int .i64 0), (.bool false), (.str []), (.sl [] .nil), (.sl [] .nil)] [(0, 1, (.tmp 33)), (2, 1, (.tmp 37))]), S 5 4 38] []) .ret))) }
theorem fn36 : Gam.fn 36 = some af36 := by kernel_rfl
def af52 : AFun :=
 { ntmps := 13, nslots := 0, results := [.tmp 2], byref := [], owned := false,
   body := (.seq (.region 1 [N 2 (.move (.const (.bool false)))] []) (.seq (.region 11 [M 3 0, N 4 (.nilCheck (.tmp 3)), A 5 4 1, L 6 5, M 7 0, N 8 (.nilCheck (.tmp 7)), A 9 8 0, L 10 9, N 11 (.len .sl (.tmp 10)), N 12 (.binOp .lss (.one .int) (.tmp 6) (.tmp 11)), M 2 12] []) .ret)) }
theorem fn52 : Gam.fn 52 = some af52 := by kernel_rfl
def c53_0 : ACode := (.seq (.seq (.region 2 [M 33 11, N 34 (.binOp .gtr (.one .int) (.tmp 33) (I 0))] []) (.cond (.tmp 34) .skip (.exit 2))) (.seq (.block 3 (.region 10 [A 37 10 1, L 38 37, M 39 0, M 40 1, M 41 8, N 42 (.call 97 [(.tmp 39), (.tmp 40), (.tmp 41)]), N 43 (.buildSlice 4 false (.agg [(.str []), (.sl [] .nil)]) 1 [(0, (.tmp 42))]), N 44 (.append 5 2 40 false (.tmp 38) (.tmp 43)), A 45 10 1, S 1 45 44] [(1, 5), (1, 6)])) (.region 3 [M 35 11, N 36 (.binOp .sub (.one .int) (.tmp 35) (I 1)), M 11 36] [])))
def c53_1 : ACode := (.seq (.seq (.region 4 [M 13 9, M 14 7, N 15 (.len .sl (.tmp 14)), N 16 (.binOp .lss (.one .int) (.tmp 13) (.tmp 15))] []) (.cond (.tmp 16) .skip (.exit 0))) (.seq (.block 1 (.seq (.region 3 [M 19 0, N 20 (.call 30 [(.tmp 19), (I 3)]), N 21 (.binOp .gtr (.one .int) (.tmp 20) (I 0))] []) (.cond (.tmp 21) (.region 8 [M 22 8, M 23 7, M 24 9, N 25 (.indexAddr none 2 (.tmp 23) (.tmp 24)), N 26 (.load (some 2) (.tmp 25)), N 27 (.buildSlice 1 false (.agg [(.str []), (.int .i64 0)]) 1 [(0, (.tmp 26))]), N 28 (.append 2 2 24 false (.tmp 22) (.tmp 27)), M 8 28] []) .skip))) (.region 3 [M 17 9, N 18 (.binOp .add (.one .int) (.tmp 17) (I 1)), M 9 18] [])))
def af53 : AFun :=
 { ntmps := 58, nslots := 6, results := [.cell 6 (some 5)], byref := [], owned := false,
   body := (.seq (.region 1 [N 6 (.alloc 0 (.agg [(.sl [] .nil), (.sl [] .nil), (.sl [] .nil), (.str []), (.sl [] .nil)]))] []) (.seq (.region 2 [N 12 (.call 96 []), M 7 12] []) (.seq (.region 1 [N 8 (.move (.const (.sl [] .nil)))] []) (.seq (.seq (.region 1 [N 9 (.move (I 0))] []) (.block 0 (.loop c53_1))) (.seq (.region 4 [M 29 8, N 30 (.build [(.sl [] .nil), (.sl [] .nil), (.sl [] .nil), (.str []), (.sl [] .nil)] [(0, 1, (.tmp 29))]), N 10 (.alloc 3 (.agg [(.sl [] .nil), (.sl [] .nil), (.sl [] .nil), (.str []), (.sl [] .nil)])), S 5 10 30] []) (.seq (.seq (.region 3 [M 31 0, N 32 (.call 30 [(.tmp 31), (I 3)]), M 11 32] []) (.block 2 (.loop c53_0))) (.seq (.region 5 [M 46 0, M 47 8, N 48 (.call 98 [(.tmp 46), (I 3), (.tmp 47)]), A 49 10 2, S 1 49 48] []) (.seq (.seq (.region 2 [M 50 2, N 51 (.unOp .not (.tmp 50))] []) (.cond (.tmp 51) (.region 6 [M 52 0, M 53 1, M 54 8, N 55 (.call 97 [(.tmp 52), (.tmp 53), (.tmp 54)]), A 56 10 3, S 2 56 55] []) .skip)) (.seq (.region 2 [N 57 (.load (some 5) (.tmp 10)), S 5 6 57] []) .ret))))))))) }
theorem fn53 : Gam.fn 53 = some af53 := by kernel_rfl
def af60 : AFun :=
 { ntmps := 11, nslots := 0, results := [.tmp 4], byref := [], owned := false,
   body := (.seq (.region 1 [N 4 (.move (I 0))] []) (.seq (.region 7 [M 5 0, N 6 (.cInt .u64 (.tmp 5)), M 7 1, N 8 (.cInt .u64 (.tmp 7)), N 9 (.binOp .rem (.one .int) (.tmp 6) (.tmp 8)), N 10 (.cInt .i64 (.tmp 9)), M 4 10] []) .ret)) }
theorem fn60 : Gam.fn 60 = some af60 := by kernel_rfl
def c72_0 : ACode := (.seq (.seq (.region 6 [M 7 4, N 8 (.binOp .neq (.one .int) (.tmp 7) (I 0)), M 9 8, U 10 (.move (.tmp 3)) 9, U 11 (.binOp .eql (.one .str) (.tmp 10) (.const (.str []))) 9, N 12 (.pick (.tmp 9) (.const (.bool true)) (.tmp 11))] []) (.cond (.tmp 12) .skip (.exit 0))) (.seq (.block 1 (.seq (.region 3 [M 15 4, N 16 (.binOp .rem (.one .int) (.tmp 15) (I 10)), M 5 16] []) (.seq (.seq (.region 2 [M 17 5, N 18 (.binOp .lss (.one .int) (.tmp 17) (I 0))] []) (.cond (.tmp 18) (.region 3 [M 19 5, N 20 (.unOp .neg (.tmp 19)), M 5 20] []) .skip)) (.region 8 [M 21 5, N 22 (.binOp .add (.one .int) (I 48) (.tmp 21)), N 23 (.cInt .u8 (.tmp 22)), N 24 (.buildSlice 0 false (.int .u8 0) 1 [(0, (.tmp 23))]), N 25 (.ofBytes (.tmp 24)), M 26 3, N 27 (.binOp .add (.one .str) (.tmp 25) (.tmp 26)), M 3 27] [])))) (.region 3 [M 13 4, N 14 (.binOp .quo (.one .int) (.tmp 13) (I 10)), M 4 14] [])))
def af72 : AFun :=
 { ntmps := 33, nslots := 1, results := [.tmp 2], byref := [], owned := false,
   body := (.seq (.region 1 [N 2 (.move (.const (.str [])))] []) (.seq (.region 1 [N 3 (.move (.const (.str [])))] []) (.seq (.seq (.region 2 [M 6 0, M 4 6] []) (.block 0 (.loop c72_0))) (.seq (.seq (.region 2 [M 28 0, N 29 (.binOp .lss (.one .int) (.tmp 28) (I 0))] []) (.cond (.tmp 29) (.seq (.region 3 [M 30 3, N 31 (.binOp .add (.one .str) (.const (.str [45])) (.tmp 30)), M 2 31] []) .ret) .skip)) (.seq (.region 2 [M 32 3, M 2 32] []) .ret))))) }
theorem fn72 : Gam.fn 72 = some af72 := by kernel_rfl
def af96 : AFun :=
 { ntmps := 10, nslots := 1, results := [.tmp 0], byref := [], owned := false,
   body := (.seq (.region 1 [N 0 (.move (.const (.sl [] .nil)))] []) (.seq (.region 10 [N 1 (.build [(.str []), (.int .i64 0)] [(0, 1, (.const (.str [120]))), (1, 1, (I 2))]), N 2 (.build [(.str []), (.int .i64 0)] [(0, 1, (.const (.str [121]))), (1, 1, (I 2))]), N 3 (.build [(.str []), (.int .i64 0)] [(0, 1, (.const (.str [122]))), (1, 1, (I 3))]), N 4 (.build [(.str []), (.int .i64 0)] [(0, 1, (.const (.str [119]))), (1, 1, (I 3))]), N 5 (.build [(.str []), (.int .i64 0)] [(0, 1, (.const (.str [112]))), (1, 1, (I 1))]), N 6 (.build [(.str []), (.int .i64 0)] [(0, 1, (.const (.str [98]))), (1, 1, (I 1))]), N 7 (.build [(.str []), (.int .i64 0)] [(0, 1, (.const (.str [97]))), (1, 1, (I 4))]), N 8 (.build [(.str []), (.int .i64 0)] [(0, 1, (.const (.str [99]))), (1, 1, (I 4))]), N 9 (.buildSlice 0 false (.agg [(.str []), (.int .i64 0)]) 8 [(0, (.tmp 1)), (1, (.tmp 2)), (2, (.tmp 3)), (3, (.tmp 4)), (4, (.tmp 5)), (5, (.tmp 6)), (6, (.tmp 7)), (7, (.tmp 8))]), M 0 9] []) .ret)) }
theorem fn96 : Gam.fn 96 = some af96 := by kernel_rfl
def c97_0 : ACode := (.seq (.seq (.region 5 [M 20 9, A 21 7 1, L 22 21, N 23 (.len .sl (.tmp 22)), N 24 (.binOp .lss (.one .int) (.tmp 20) (.tmp 23))] []) (.cond (.tmp 24) .skip (.exit 0))) (.seq (.block 1 (.region 14 [A 27 8 1, L 28 27, M 29 0, A 30 7 1, L 31 30, M 32 9, N 33 (.indexAddr none 1 (.tmp 31) (.tmp 32)), L 34 33, M 35 2, N 36 (.call 140 [(.tmp 29), (.tmp 34), (.tmp 35)]), N 37 (.buildSlice 3 false (.sl [] .nil) 1 [(0, (.tmp 36))]), N 38 (.append 4 1 24 false (.tmp 28) (.tmp 37)), A 39 8 1, S 1 39 38] [(1, 9), (1, 10)])) (.region 3 [M 25 9, N 26 (.binOp .add (.one .int) (.tmp 25) (I 1)), M 9 26] [])))
def af97 : AFun :=
 { ntmps := 41, nslots := 5, results := [.cell 6 (some 2)], byref := [], owned := false,
   body := (.seq (.region 1 [N 6 (.alloc 0 (.agg [(.str []), (.sl [] .nil)]))] []) (.seq (.region 9 [M 10 1, M 11 0, M 12 1, N 13 (.len .sl (.tmp 12)), N 14 (.call 30 [(.tmp 11), (.tmp 13)]), N 15 (.indexAddr none 3 (.tmp 10) (.tmp 14)), N 16 (.load (some 3) (.tmp 15)), N 7 (.alloc 1 (.agg [(.str []), (.sl [] .nil), (.int .i64 0)])), S 3 7 16] []) (.seq (.region 5 [A 17 7 0, L 18 17, N 19 (.build [(.str []), (.sl [] .nil)] [(0, 1, (.tmp 18))]), N 8 (.alloc 2 (.agg [(.str []), (.sl [] .nil)])), S 2 8 19] []) (.seq (.seq (.region 1 [N 9 (.move (I 0))] []) (.block 0 (.loop c97_0))) (.seq (.region 2 [N 40 (.load (some 2) (.tmp 8)), S 2 6 40] []) .ret))))) }
theorem fn97 : Gam.fn 97 = some af97 := by kernel_rfl
def af98 : AFun :=
 { ntmps := 82, nslots := 5, results := [.tmp 6], byref := [], owned := false,
   body := (.seq (.region 1 [N 6 (.move (.const (.sl [] .nil)))] []) (.seq (.region 3 [M 8 0, N 9 (.call 30 [(.tmp 8), (I 6)]), M 7 9] []) (.seq (.seq (.region 10 [M 10 1, N 11 (.binOp .leq (.one .int) (.tmp 10) (I 0)), M 12 11, V 13 (.move (.tmp 7)) 12, V 14 (.binOp .eql (.one .int) (.tmp 13) (I 3)) 12, V 15 (.move (.tmp 14)) 12, U 16 (.move (.tmp 7)) 15, U 17 (.binOp .eql (.one .int) (.tmp 16) (I 4)) 15, V 18 (.pick (.tmp 15) (.const (.bool true)) (.tmp 17)) 12, N 19 (.pick (.tmp 12) (.tmp 18) (.const (.bool false)))] []) (.cond (.tmp 19) (.region 1 [N 7 (.move (I 0))] []) .skip)) (.seq (.seq (.region 1 [M 20 7] []) (.block 0 (.seq (.region 2 [N 22 (.binOp .eql (.one .int) (.tmp 20) (I 0)), M 21 22] []) (.cond (.tmp 21) (.seq (.region 2 [N 23 (.call 141 [(.const (.bool true))]), M 6 23] []) .ret) (.seq (.region 2 [N 25 (.binOp .eql (.one .int) (.tmp 20) (I 1)), M 24 25] []) (.cond (.tmp 24) (.seq (.region 10 [M 26 0, M 27 2, N 28 (.call 143 [(.tmp 26), (I 2), (.tmp 27)]), M 29 0, N 30 (.call 30 [(.tmp 29), (I 5)]), N 31 (.call 72 [.tmp 30]), N 32 (.call 144 [(I 2), (.tmp 31)]), N 33 (.buildSlice 0 false (.sl [] .nil) 2 [(0, (.tmp 28)), (1, (.tmp 32))]), N 34 (.call 142 [(I 12), (.tmp 33)]), M 6 34] []) .ret) (.seq (.region 2 [N 36 (.binOp .eql (.one .int) (.tmp 20) (I 2)), M 35 36] []) (.cond (.tmp 35) (.seq (.region 15 [M 37 0, M 38 2, N 39 (.call 143 [(.tmp 37), (I 2), (.tmp 38)]), M 40 0, M 41 2, N 42 (.call 143 [(.tmp 40), (I 2), (.tmp 41)]), M 43 0, N 44 (.call 30 [(.tmp 43), (I 3)]), N 45 (.call 72 [.tmp 44]), N 46 (.call 144 [(I 2), (.tmp 45)]), N 47 (.buildSlice 1 false (.sl [] .nil) 2 [(0, (.tmp 42)), (1, (.tmp 46))]), N 48 (.call 142 [(I 14), (.tmp 47)]), N 49 (.buildSlice 2 false (.sl [] .nil) 2 [(0, (.tmp 39)), (1, (.tmp 48))]), N 50 (.call 142 [(I 11), (.tmp 49)]), M 6 50] []) .ret) (.seq (.region 2 [N 52 (.binOp .eql (.one .int) (.tmp 20) (I 3)), M 51 52] []) (.cond (.tmp 51) (.seq (.region 13 [M 53 0, M 54 1, N 55 (.binOp .sub (.one .int) (.tmp 54) (I 1)), M 56 2, N 57 (.call 98 [(.tmp 53), (.tmp 55), (.tmp 56)]), M 58 0, M 59 1, N 60 (.binOp .sub (.one .int) (.tmp 59) (I 1)), M 61 2, N 62 (.call 98 [(.tmp 58), (.tmp 60), (.tmp 61)]), N 63 (.buildSlice 3 false (.sl [] .nil) 2 [(0, (.tmp 57)), (1, (.tmp 62))]), N 64 (.call 142 [(I 7), (.tmp 63)]), M 6 64] []) .ret) (.seq (.region 2 [N 66 (.binOp .eql (.one .int) (.tmp 20) (I 4)), M 65 66] []) (.cond (.tmp 65) (.seq (.region 13 [M 67 0, M 68 1, N 69 (.binOp .sub (.one .int) (.tmp 68) (I 1)), M 70 2, N 71 (.call 98 [(.tmp 67), (.tmp 69), (.tmp 70)]), M 72 0, M 73 1, N 74 (.binOp .sub (.one .int) (.tmp 73) (I 1)), M 75 2, N 76 (.call 98 [(.tmp 72), (.tmp 74), (.tmp 75)]), N 77 (.buildSlice 4 false (.sl [] .nil) 2 [(0, (.tmp 71)), (1, (.tmp 76))]), N 78 (.call 142 [(I 8), (.tmp 77)]), M 6 78] []) .ret) .skip)))))))))))) (.seq (.region 4 [M 79 0, M 80 2, N 81 (.call 145 [(.tmp 79), (I 2), (.tmp 80)]), M 6 81] []) .ret))))) }
theorem fn98 : Gam.fn 98 = some af98 := by kernel_rfl
def af51 : AFun :=
 { ntmps := 11, nslots := 5, results := [.tmp 0], byref := [], owned := false,
   body := (.seq (.region 1 [N 0 (.move (.const (.sl [] .nil)))] []) (.seq (.region 11 [N 1 (.buildSlice 0 false (.int .i64 0) 1 [(0, (I 2))]), N 2 (.build [(.str []), (.sl [] .nil), (.int .i64 0)] [(0, 1, (.const (.str [80]))), (1, 1, (.tmp 1)), (2, 1, (I 1))]), N 3 (.buildSlice 1 false (.int .i64 0) 2 [(0, (I 2)), (1, (I 2))]), N 4 (.build [(.str []), (.sl [] .nil), (.int .i64 0)] [(0, 1, (.const (.str [81]))), (1, 1, (.tmp 3)), (2, 1, (I 1))]), N 5 (.buildSlice 2 false (.int .i64 0) 3 [(0, (I 1)), (1, (I 2)), (2, (I 2))]), N 6 (.build [(.str []), (.sl [] .nil), (.int .i64 0)] [(0, 1, (.const (.str [82]))), (1, 1, (.tmp 5)), (2, 1, (I 1))]), N 7 (.build [(.str []), (.sl [] .nil), (.int .i64 0)] [(0, 1, (.const (.str [90]))), (2, 1, (I 1))]), N 8 (.buildSlice 3 false (.int .i64 0) 2 [(0, (I 3)), (1, (I 4))]), N 9 (.build [(.str []), (.sl [] .nil), (.int .i64 0)] [(0, 1, (.const (.str [83]))), (1, 1, (.tmp 8)), (2, 1, (I 1))]), N 10 (.buildSlice 4 false (.agg [(.str []), (.sl [] .nil), (.int .i64 0)]) 5 [(0, (.tmp 2)), (1, (.tmp 4)), (2, (.tmp 6)), (3, (.tmp 7)), (4, (.tmp 9))]), M 0 10] []) .ret)) }
theorem fn51 : Gam.fn 51 = some af51 := by kernel_rfl
def af140 : AFun :=
 { ntmps := 18, nslots := 0, results := [.tmp 6], byref := [], owned := false,
   body := (.seq (.region 1 [N 6 (.move (.const (.sl [] .nil)))] []) (.seq (.seq (.region 3 [M 7 0, N 8 (.call 30 [(.tmp 7), (I 4)]), N 9 (.binOp .eql (.one .int) (.tmp 8) (I 0))] []) (.cond (.tmp 9) (.seq (.region 5 [M 10 0, M 11 1, M 12 2, N 13 (.call 186 [(.tmp 10), (.tmp 11), (I 1), (.tmp 12)]), M 6 13] []) .ret) .skip)) (.seq (.region 5 [M 14 0, M 15 1, M 16 2, N 17 (.call 143 [(.tmp 14), (.tmp 15), (.tmp 16)]), M 6 17] []) .ret))) }
theorem fn140 : Gam.fn 140 = some af140 := by kernel_rfl
def af141 : AFun :=
 { ntmps := 8, nslots := 2, results := [.tmp 2], byref := [], owned := false,
   body := (.seq (.region 1 [N 2 (.move (.const (.sl [] .nil)))] []) (.seq (.seq (.region 1 [M 3 0] []) (.cond (.tmp 3) (.seq (.region 3 [N 4 (.build [(.int .i64 0), (.int .i64 0), (.str []), (.str []), (.int .i64 0)] [(0, 1, (I 1))]), N 5 (.buildSlice 0 false (.agg [(.int .i64 0), (.int .i64 0), (.str []), (.str []), (.int .i64 0)]) 1 [(0, (.tmp 4))]), M 2 5] []) .ret) .skip)) (.seq (.region 3 [N 6 (.build [(.int .i64 0), (.int .i64 0), (.str []), (.str []), (.int .i64 0)] [(0, 1, (I 2))]), N 7 (.buildSlice 1 false (.agg [(.int .i64 0), (.int .i64 0), (.str []), (.str []), (.int .i64 0)]) 1 [(0, (.tmp 6))]), M 2 7] []) .ret))) }
theorem fn141 : Gam.fn 141 = some af141 := by kernel_rfl
def af142 : AFun :=
 { ntmps := 9, nslots := 0, results := [.tmp 4], byref := [], owned := false,
   body := (.seq (.region 1 [N 4 (.move (.const (.sl [] .nil)))] []) (.seq (.region 5 [M 5 0, N 6 (.build [(.int .i64 0), (.int .i64 0), (.str []), (.str []), (.int .i64 0)] [(0, 1, (.tmp 5))]), M 7 1, N 8 (.call 187 [(.tmp 6), (.tmp 7)]), M 4 8] []) .ret)) }
theorem fn142 : Gam.fn 142 = some af142 := by kernel_rfl
def c143_0 : ACode := (.seq (.seq (.region 4 [M 12 8, M 13 2, N 14 (.len .sl (.tmp 13)), N 15 (.binOp .lss (.one .int) (.tmp 12) (.tmp 14))] []) (.cond (.tmp 15) .skip (.exit 0))) (.seq (.block 1 (.seq (.region 7 [M 18 2, M 19 8, N 20 (.indexAddr none 2 (.tmp 18) (.tmp 19)), A 21 20 1, L 22 21, M 23 1, N 24 (.binOp .eql (.one .int) (.tmp 22) (.tmp 23))] []) (.cond (.tmp 24) (.region 8 [M 25 7, M 26 2, M 27 8, N 28 (.indexAddr none 2 (.tmp 26) (.tmp 27)), N 29 (.load (some 2) (.tmp 28)), N 30 (.buildSlice 0 false (.agg [(.str []), (.int .i64 0)]) 1 [(0, (.tmp 29))]), N 31 (.append 1 2 24 false (.tmp 25) (.tmp 30)), M 7 31] []) .skip))) (.region 3 [M 16 8, N 17 (.binOp .add (.one .int) (.tmp 16) (I 1)), M 8 17] [])))
def af143 : AFun :=
 { ntmps := 55, nslots := 4, results := [.tmp 6], byref := [], owned := false,
   body := (.seq (.region 1 [N 6 (.move (.const (.sl [] .nil)))] []) (.seq (.region 1 [N 7 (.move (.const (.sl [] .nil)))] []) (.seq (.seq (.region 1 [N 8 (.move (I 0))] []) (.block 0 (.loop c143_0))) (.seq (.seq (.region 3 [M 32 7, N 33 (.len .sl (.tmp 32)), N 34 (.binOp .eql (.one .int) (.tmp 33) (I 0))] []) (.cond (.tmp 34) (.seq (.region 9 [M 36 0, M 37 1, N 38 (.call 36 [(.tmp 36), (.tmp 37)]), N 39 (.call 188 [.tmp 38]), M 35 39, E 40 35 0, E 41 35 1, M 9 40, M 10 41] []) (.seq (.region 2 [M 42 9, M 6 42] []) .ret)) .skip)) (.seq (.region 9 [M 43 7, M 44 0, M 45 7, N 46 (.len .sl (.tmp 45)), N 47 (.call 30 [(.tmp 44), (.tmp 46)]), N 48 (.indexAddr none 2 (.tmp 43) (.tmp 47)), N 49 (.load (some 2) (.tmp 48)), N 11 (.alloc 2 (.agg [(.str []), (.int .i64 0)])), S 2 11 49] []) (.seq (.region 6 [M 50 1, A 51 11 0, L 52 51, N 53 (.build [(.int .i64 0), (.int .i64 0), (.str []), (.str []), (.int .i64 0)] [(0, 1, (I 4)), (1, 1, (.tmp 50)), (2, 1, (.tmp 52))]), N 54 (.buildSlice 3 false (.agg [(.int .i64 0), (.int .i64 0), (.str []), (.str []), (.int .i64 0)]) 1 [(0, (.tmp 53))]), M 6 54] []) .ret)))))) }
theorem fn143 : Gam.fn 143 = some af143 := by kernel_rfl
def af144 : AFun :=
 { ntmps := 9, nslots := 1, results := [.tmp 4], byref := [], owned := false,
   body := (.seq (.region 1 [N 4 (.move (.const (.sl [] .nil)))] []) (.seq (.region 5 [M 5 0, M 6 1, N 7 (.build [(.int .i64 0), (.int .i64 0), (.str []), (.str []), (.int .i64 0)] [(0, 1, (I 3)), (1, 1, (.tmp 5)), (3, 1, (.tmp 6))]), N 8 (.buildSlice 0 false (.agg [(.int .i64 0), (.int .i64 0), (.str []), (.str []), (.int .i64 0)]) 1 [(0, (.tmp 7))]), M 4 8] []) .ret)) }
theorem fn144 : Gam.fn 144 = some af144 := by kernel_rfl
def c145_0 : ACode := (.seq (.seq (.region 2 [M 38 8, N 39 (.binOp .gtr (.one .int) (.tmp 38) (I 0))] []) (.cond (.tmp 39) .skip (.exit 1))) (.seq (.block 2 (.region 9 [M 42 7, M 43 0, M 44 1, N 45 (.binOp .sub (.one .int) (.tmp 44) (I 1)), M 46 2, N 47 (.call 145 [(.tmp 43), (.tmp 45), (.tmp 46)]), N 48 (.buildSlice 1 false (.sl [] .nil) 1 [(0, (.tmp 47))]), N 49 (.append 2 1 24 false (.tmp 42) (.tmp 48)), M 7 49] [])) (.region 3 [M 40 8, N 41 (.binOp .sub (.one .int) (.tmp 40) (I 1)), M 8 41] [])))
def af145 : AFun :=
 { ntmps := 94, nslots := 5, results := [.tmp 6], byref := [], owned := false,
   body := (.seq (.region 1 [N 6 (.move (.const (.sl [] .nil)))] []) (.seq (.seq (.region 7 [M 9 1, N 10 (.binOp .leq (.one .int) (.tmp 9) (I 0)), M 11 10, U 12 (.move (.tmp 0)) 11, U 13 (.call 52 [.tmp 12]) 11, U 14 (.unOp .not (.tmp 13)) 11, N 15 (.pick (.tmp 11) (.const (.bool true)) (.tmp 14))] []) (.cond (.tmp 15) (.seq (.region 4 [M 16 0, M 17 2, N 18 (.call 189 [(.tmp 16), (I 0), (.tmp 17)]), M 6 18] []) .ret) .skip)) (.seq (.seq (.region 2 [M 19 0, N 20 (.call 30 [(.tmp 19), (I 12)])] []) (.block 0 (.seq (.seq (.region 2 [N 22 (.binOp .eql (.one .int) (.tmp 20) (I 0)), M 21 22] []) (.cond (.tmp 21) .skip (.region 2 [N 23 (.binOp .eql (.one .int) (.tmp 20) (I 1)), M 21 23] []))) (.cond (.tmp 21) (.seq (.region 8 [M 24 0, M 25 1, N 26 (.binOp .sub (.one .int) (.tmp 25) (I 1)), M 27 2, N 28 (.call 145 [(.tmp 24), (.tmp 26), (.tmp 27)]), N 29 (.buildSlice 0 false (.sl [] .nil) 1 [(0, (.tmp 28))]), N 30 (.call 142 [(I 6), (.tmp 29)]), M 6 30] []) .ret) (.seq (.seq (.region 2 [N 32 (.binOp .eql (.one .int) (.tmp 20) (I 2)), M 31 32] []) (.cond (.tmp 31) .skip (.seq (.region 2 [N 33 (.binOp .eql (.one .int) (.tmp 20) (I 3)), M 31 33] []) (.cond (.tmp 31) .skip (.seq (.region 2 [N 34 (.binOp .eql (.one .int) (.tmp 20) (I 4)), M 31 34] []) (.cond (.tmp 31) .skip (.region 2 [N 35 (.binOp .eql (.one .int) (.tmp 20) (I 5)), M 31 35] []))))))) (.cond (.tmp 31) (.seq (.region 1 [N 7 (.move (.const (.sl [] .nil)))] []) (.seq (.seq (.region 3 [M 36 0, N 37 (.call 30 [(.tmp 36), (I 4)]), M 8 37] []) (.block 1 (.loop c145_0))) (.seq (.region 6 [M 50 0, N 51 (.call 30 [(.tmp 50), (I 2)]), N 52 (.binOp .add (.one .int) (I 7) (.tmp 51)), M 53 7, N 54 (.call 142 [(.tmp 52), (.tmp 53)]), M 6 54] []) .ret))) (.seq (.region 2 [N 56 (.binOp .eql (.one .int) (.tmp 20) (I 6)), M 55 56] []) (.cond (.tmp 55) (.seq (.region 13 [M 57 0, M 58 1, N 59 (.binOp .sub (.one .int) (.tmp 58) (I 1)), M 60 2, N 61 (.call 145 [(.tmp 57), (.tmp 59), (.tmp 60)]), M 62 0, M 63 1, N 64 (.binOp .sub (.one .int) (.tmp 63) (I 1)), M 65 2, N 66 (.call 145 [(.tmp 62), (.tmp 64), (.tmp 65)]), N 67 (.buildSlice 3 false (.sl [] .nil) 2 [(0, (.tmp 61)), (1, (.tmp 66))]), N 68 (.call 142 [(I 9), (.tmp 67)]), M 6 68] []) .ret) (.seq (.region 2 [N 70 (.binOp .eql (.one .int) (.tmp 20) (I 7)), M 69 70] []) (.cond (.tmp 69) (.seq (.region 5 [M 71 0, M 72 1, M 73 2, N 74 (.call 190 [(.tmp 71), (I 1), (.tmp 72), (.tmp 73)]), M 6 74] []) .ret) (.seq (.region 2 [N 76 (.binOp .eql (.one .int) (.tmp 20) (I 8)), M 75 76] []) (.cond (.tmp 75) (.seq (.region 13 [M 77 0, M 78 1, N 79 (.binOp .sub (.one .int) (.tmp 78) (I 1)), M 80 2, N 81 (.call 145 [(.tmp 77), (.tmp 79), (.tmp 80)]), M 82 0, M 83 1, N 84 (.binOp .sub (.one .int) (.tmp 83) (I 1)), M 85 2, N 86 (.call 145 [(.tmp 82), (.tmp 84), (.tmp 85)]), N 87 (.buildSlice 4 false (.sl [] .nil) 2 [(0, (.tmp 81)), (1, (.tmp 86))]), N 88 (.call 142 [(I 11), (.tmp 87)]), M 6 88] []) .ret) .skip)))))))))))) (.seq (.region 6 [M 89 0, M 90 1, N 91 (.binOp .sub (.one .int) (.tmp 90) (I 1)), M 92 2, N 93 (.call 189 [(.tmp 89), (.tmp 91), (.tmp 92)]), M 6 93] []) .ret)))) }
theorem fn145 : Gam.fn 145 = some af145 := by kernel_rfl
def af186 : AFun :=
 { ntmps := 89, nslots := 2, results := [.tmp 8], byref := [], owned := false,
   body := (.seq (.region 1 [N 8 (.move (.const (.sl [] .nil)))] []) (.seq (.seq (.region 7 [M 11 2, N 12 (.binOp .leq (.one .int) (.tmp 11) (I 0)), M 13 12, U 14 (.move (.tmp 0)) 13, U 15 (.call 52 [.tmp 14]) 13, U 16 (.unOp .not (.tmp 15)) 13, N 17 (.pick (.tmp 13) (.const (.bool true)) (.tmp 16))] []) (.cond (.tmp 17) (.seq (.seq (.region 3 [M 18 0, N 19 (.call 30 [(.tmp 18), (I 3)]), N 20 (.binOp .eql (.one .int) (.tmp 19) (I 0))] []) (.cond (.tmp 20) (.seq (.region 9 [M 22 0, M 23 1, N 24 (.call 36 [(.tmp 22), (.tmp 23)]), N 25 (.call 188 [.tmp 24]), M 21 25, E 26 21 0, E 27 21 1, M 9 26, M 10 27] []) (.seq (.region 2 [M 28 9, M 8 28] []) .ret)) .skip)) (.seq (.region 5 [M 29 0, M 30 1, M 31 3, N 32 (.call 143 [(.tmp 29), (.tmp 30), (.tmp 31)]), M 8 32] []) .ret)) .skip)) (.seq (.seq (.region 1 [M 33 1] []) (.block 0 (.seq (.region 2 [N 35 (.binOp .eql (.one .int) (.tmp 33) (I 1)), M 34 35] []) (.cond (.tmp 34) (.seq (.region 5 [M 36 0, M 37 2, M 38 3, N 39 (.call 145 [(.tmp 36), (.tmp 37), (.tmp 38)]), M 8 39] []) .ret) (.seq (.region 2 [N 41 (.binOp .eql (.one .int) (.tmp 33) (I 4)), M 40 41] []) (.cond (.tmp 40) (.seq (.seq (.region 2 [M 42 0, N 43 (.call 30 [(.tmp 42), (I 5)])] []) (.block 1 (.seq (.region 2 [N 45 (.binOp .eql (.one .int) (.tmp 43) (I 0)), M 44 45] []) (.cond (.tmp 44) (.seq (.region 8 [M 46 0, M 47 2, N 48 (.binOp .sub (.one .int) (.tmp 47) (I 1)), M 49 3, N 50 (.call 186 [(.tmp 46), (I 2), (.tmp 48), (.tmp 49)]), N 51 (.buildSlice 0 false (.sl [] .nil) 1 [(0, (.tmp 50))]), N 52 (.call 142 [(I 20), (.tmp 51)]), M 8 52] []) .ret) (.seq (.seq (.region 2 [N 54 (.binOp .eql (.one .int) (.tmp 43) (I 1)), M 53 54] []) (.cond (.tmp 53) .skip (.region 2 [N 55 (.binOp .eql (.one .int) (.tmp 43) (I 2)), M 53 55] []))) (.cond (.tmp 53) (.seq (.region 18 [M 56 0, M 57 2, N 58 (.binOp .sub (.one .int) (.tmp 57) (I 1)), M 59 3, N 60 (.call 186 [(.tmp 56), (I 4), (.tmp 58), (.tmp 59)]), M 61 0, M 62 2, N 63 (.binOp .sub (.one .int) (.tmp 62) (I 1)), M 64 3, N 65 (.call 186 [(.tmp 61), (I 2), (.tmp 63), (.tmp 64)]), M 66 0, M 67 2, N 68 (.binOp .sub (.one .int) (.tmp 67) (I 1)), M 69 3, N 70 (.call 186 [(.tmp 66), (I 2), (.tmp 68), (.tmp 69)]), N 71 (.buildSlice 1 false (.sl [] .nil) 3 [(0, (.tmp 60)), (1, (.tmp 65)), (2, (.tmp 70))]), N 72 (.call 142 [(I 19), (.tmp 71)]), M 8 72] []) .ret) (.seq (.region 2 [N 74 (.binOp .eql (.one .int) (.tmp 43) (I 3)), M 73 74] []) (.cond (.tmp 73) (.seq (.region 6 [M 75 0, M 76 1, M 77 2, M 78 3, N 79 (.call 190 [(.tmp 75), (.tmp 76), (.tmp 77), (.tmp 78)]), M 8 79] []) .ret) .skip)))))))) (.seq (.region 5 [M 80 0, M 81 1, M 82 3, N 83 (.call 143 [(.tmp 80), (.tmp 81), (.tmp 82)]), M 8 83] []) .ret)) .skip)))))) (.seq (.region 6 [M 84 0, M 85 1, M 86 2, M 87 3, N 88 (.call 221 [(.tmp 84), (.tmp 85), (.tmp 86), (.tmp 87)]), M 8 88] []) .ret)))) }
theorem fn186 : Gam.fn 186 = some af186 := by kernel_rfl
def c187_0 : ACode := (.seq (.seq (.region 4 [M 12 6, M 13 1, N 14 (.len .sl (.tmp 13)), N 15 (.binOp .lss (.one .int) (.tmp 12) (.tmp 14))] []) (.cond (.tmp 15) .skip (.exit 0))) (.seq (.block 1 (.region 7 [M 18 5, M 19 1, M 20 6, N 21 (.indexAddr none 1 (.tmp 19) (.tmp 20)), L 22 21, N 23 (.append 2 5 56 false (.tmp 18) (.tmp 22)), M 5 23] [])) (.region 3 [M 16 6, N 17 (.binOp .add (.one .int) (.tmp 16) (I 1)), M 6 17] [])))
def af187 : AFun :=
 { ntmps := 25, nslots := 3, results := [.tmp 4], byref := [], owned := false,
   body := (.seq (.region 2 [N 2 (.box 0 (.tmp 0)), N 4 (.move (.const (.sl [] .nil)))] []) (.seq (.region 4 [M 7 1, N 8 (.len .sl (.tmp 7)), A 9 2 4, S 1 9 8] []) (.seq (.region 3 [N 10 (.load (some 5) (.tmp 2)), N 11 (.buildSlice 1 false (.agg [(.int .i64 0), (.int .i64 0), (.str []), (.str []), (.int .i64 0)]) 1 [(0, (.tmp 10))]), M 5 11] []) (.seq (.seq (.region 1 [N 6 (.move (I 0))] []) (.block 0 (.loop c187_0))) (.seq (.region 2 [M 24 5, M 4 24] []) .ret))))) }
theorem fn187 : Gam.fn 187 = some af187 := by kernel_rfl
def af189 : AFun :=
 { ntmps := 46, nslots := 2, results := [.tmp 6], byref := [], owned := false,
   body := (.seq (.region 1 [N 6 (.move (.const (.sl [] .nil)))] []) (.seq (.region 6 [N 9 (.buildSlice 0 false (.int .i64 0) 5 [(0, (I 2)), (1, (I 2)), (2, (I 3)), (3, (I 4)), (4, (I 1))]), M 10 0, N 11 (.call 30 [(.tmp 10), (I 5)]), N 12 (.indexAddr none 1 (.tmp 9) (.tmp 11)), L 13 12, M 7 13] []) (.seq (.seq (.region 2 [M 14 7, N 15 (.binOp .eql (.one .int) (.tmp 14) (I 1))] []) (.cond (.tmp 15) (.seq (.seq (.region 3 [M 16 0, N 17 (.call 30 [(.tmp 16), (I 3)]), N 18 (.binOp .eql (.one .int) (.tmp 17) (I 0))] []) (.cond (.tmp 18) (.seq (.region 5 [M 19 0, N 20 (.call 30 [(.tmp 19), (I 2)]), N 21 (.binOp .eql (.one .int) (.tmp 20) (I 1)), N 22 (.call 141 [.tmp 21]), M 6 22] []) .ret) .skip)) (.seq (.region 5 [M 23 0, M 24 7, M 25 2, N 26 (.call 143 [(.tmp 23), (.tmp 24), (.tmp 25)]), M 6 26] []) .ret)) .skip)) (.seq (.region 1 [N 8 (.move (I 11))] []) (.seq (.seq (.region 2 [M 27 7, N 28 (.binOp .neq (.one .int) (.tmp 27) (I 4))] []) (.cond (.tmp 28) (.region 5 [M 29 8, M 30 0, N 31 (.call 30 [(.tmp 30), (I 3)]), N 32 (.binOp .add (.one .int) (.tmp 29) (.tmp 31)), M 8 32] []) .skip)) (.seq (.region 14 [M 33 8, M 34 0, M 35 7, M 36 1, M 37 2, N 38 (.call 186 [(.tmp 34), (.tmp 35), (.tmp 36), (.tmp 37)]), M 39 0, M 40 7, M 41 1, M 42 2, N 43 (.call 186 [(.tmp 39), (.tmp 40), (.tmp 41), (.tmp 42)]), N 44 (.buildSlice 1 false (.sl [] .nil) 2 [(0, (.tmp 38)), (1, (.tmp 43))]), N 45 (.call 142 [(.tmp 33), (.tmp 44)]), M 6 45] []) .ret)))))) }
theorem fn189 : Gam.fn 189 = some af189 := by kernel_rfl
def af190 : AFun :=
 { ntmps := 28, nslots := 1, results := [.tmp 8], byref := [], owned := false,
   body := (.seq (.region 1 [N 8 (.move (.const (.sl [] .nil)))] []) (.seq (.region 20 [M 9 0, M 10 2, N 11 (.binOp .sub (.one .int) (.tmp 10) (I 1)), M 12 3, N 13 (.call 145 [(.tmp 9), (.tmp 11), (.tmp 12)]), M 14 0, M 15 1, M 16 2, N 17 (.binOp .sub (.one .int) (.tmp 16) (I 1)), M 18 3, N 19 (.call 186 [(.tmp 14), (.tmp 15), (.tmp 17), (.tmp 18)]), M 20 0, M 21 1, M 22 2, N 23 (.binOp .sub (.one .int) (.tmp 22) (I 1)), M 24 3, N 25 (.call 186 [(.tmp 20), (.tmp 21), (.tmp 23), (.tmp 24)]), N 26 (.buildSlice 0 false (.sl [] .nil) 3 [(0, (.tmp 13)), (1, (.tmp 19)), (2, (.tmp 25))]), N 27 (.call 142 [(I 10), (.tmp 26)]), M 8 27] []) .ret)) }
theorem fn190 : Gam.fn 190 = some af190 := by kernel_rfl
def c221_0 : ACode := (.seq (.seq (.region 2 [M 27 11, N 28 (.binOp .gtr (.one .int) (.tmp 27) (I 0))] []) (.cond (.tmp 28) .skip (.exit 1))) (.seq (.block 2 (.region 10 [M 31 10, M 32 0, M 33 1, M 34 2, N 35 (.binOp .sub (.one .int) (.tmp 34) (I 1)), M 36 3, N 37 (.call 186 [(.tmp 32), (.tmp 33), (.tmp 35), (.tmp 36)]), N 38 (.buildSlice 1 false (.sl [] .nil) 1 [(0, (.tmp 37))]), N 39 (.append 2 1 24 false (.tmp 31) (.tmp 38)), M 10 39] [])) (.region 3 [M 29 11, N 30 (.binOp .sub (.one .int) (.tmp 29) (I 1)), M 11 30] [])))
def af221 : AFun :=
 { ntmps := 122, nslots := 7, results := [.tmp 8], byref := [], owned := false,
   body := (.seq (.region 1 [N 8 (.move (.const (.sl [] .nil)))] []) (.seq (.region 3 [M 13 0, N 14 (.call 30 [(.tmp 13), (I 10)]), M 9 14] []) (.seq (.block 0 (.seq (.region 3 [M 16 9, N 17 (.binOp .lss (.one .int) (.tmp 16) (I 3)), M 15 17] []) (.cond (.tmp 15) (.seq (.region 8 [M 18 0, M 19 1, M 20 2, N 21 (.binOp .sub (.one .int) (.tmp 20) (I 1)), M 22 3, N 23 (.call 186 [(.tmp 18), (.tmp 19), (.tmp 21), (.tmp 22)]), N 24 (.buildSlice 0 false (.sl [] .nil) 1 [(0, (.tmp 23))]), M 10 24] []) (.seq (.seq (.region 3 [M 25 0, N 26 (.call 30 [(.tmp 25), (I 3)]), M 11 26] []) (.block 1 (.loop c221_0))) (.seq (.region 3 [M 40 10, N 41 (.call 142 [(I 14), (.tmp 40)]), M 8 41] []) .ret))) (.seq (.region 3 [M 43 9, N 44 (.binOp .lss (.one .int) (.tmp 43) (I 5)), M 42 44] []) (.cond (.tmp 42) (.seq (.region 14 [M 45 1, M 46 0, M 47 1, N 48 (.call 240 [(.tmp 46), (.tmp 47)]), N 49 (.call 144 [(.tmp 45), (.tmp 48)]), M 50 0, M 51 1, M 52 2, N 53 (.binOp .sub (.one .int) (.tmp 52) (I 1)), M 54 3, N 55 (.call 186 [(.tmp 50), (.tmp 51), (.tmp 53), (.tmp 54)]), N 56 (.buildSlice 3 false (.sl [] .nil) 2 [(0, (.tmp 49)), (1, (.tmp 55))]), N 57 (.call 142 [(I 15), (.tmp 56)]), M 8 57] []) .ret) (.seq (.region 3 [M 59 9, N 60 (.binOp .eql (.one .int) (.tmp 59) (I 5)), M 58 60] []) (.cond (.tmp 58) (.seq (.region 6 [M 61 0, M 62 1, M 63 2, M 64 3, N 65 (.call 190 [(.tmp 61), (.tmp 62), (.tmp 63), (.tmp 64)]), M 8 65] []) .ret) (.seq (.region 7 [M 67 9, N 68 (.binOp .eql (.one .int) (.tmp 67) (I 6)), M 69 68, V 70 (.move (.tmp 1)) 69, V 71 (.binOp .eql (.one .int) (.tmp 70) (I 2)) 69, N 72 (.pick (.tmp 69) (.tmp 71) (.const (.bool false))), M 66 72] []) (.cond (.tmp 66) (.seq (.region 10 [M 73 0, N 74 (.call 30 [(.tmp 73), (I 2)]), N 75 (.binOp .add (.one .int) (I 16) (.tmp 74)), M 76 0, N 77 (.call 30 [(.tmp 76), (I 5)]), N 78 (.binOp .add (.one .int) (I 1) (.tmp 77)), N 79 (.call 72 [.tmp 78]), N 80 (.build [(.int .i64 0), (.int .i64 0), (.str []), (.str []), (.int .i64 0)] [(0, 1, (.tmp 75)), (3, 1, (.tmp 79))]), N 12 (.alloc 4 (.agg [(.int .i64 0), (.int .i64 0), (.str []), (.str []), (.int .i64 0)])), S 5 12 80] []) (.seq (.region 10 [N 81 (.load (some 5) (.tmp 12)), M 82 0, M 83 1, M 84 2, N 85 (.binOp .sub (.one .int) (.tmp 84) (I 1)), M 86 3, N 87 (.call 186 [(.tmp 82), (.tmp 83), (.tmp 85), (.tmp 86)]), N 88 (.buildSlice 5 false (.sl [] .nil) 1 [(0, (.tmp 87))]), N 89 (.call 187 [(.tmp 81), (.tmp 88)]), M 8 89] [(0, 6), (0, 7)]) .ret)) (.seq (.region 7 [M 91 9, N 92 (.binOp .eql (.one .int) (.tmp 91) (I 7)), M 93 92, V 94 (.move (.tmp 1)) 93, V 95 (.binOp .eql (.one .int) (.tmp 94) (I 2)) 93, N 96 (.pick (.tmp 93) (.tmp 95) (.const (.bool false))), M 90 96] []) (.cond (.tmp 90) (.seq (.region 14 [M 97 0, M 98 2, N 99 (.binOp .sub (.one .int) (.tmp 98) (I 1)), M 100 3, N 101 (.call 186 [(.tmp 97), (I 4), (.tmp 99), (.tmp 100)]), M 102 0, M 103 1, M 104 2, N 105 (.binOp .sub (.one .int) (.tmp 104) (I 1)), M 106 3, N 107 (.call 186 [(.tmp 102), (.tmp 103), (.tmp 105), (.tmp 106)]), N 108 (.buildSlice 6 false (.sl [] .nil) 2 [(0, (.tmp 101)), (1, (.tmp 107))]), N 109 (.call 142 [(I 18), (.tmp 108)]), M 8 109] []) .ret) (.seq (.region 3 [M 111 9, N 112 (.binOp .eql (.one .int) (.tmp 111) (I 8)), M 110 112] []) (.cond (.tmp 110) (.seq (.region 6 [M 113 1, M 114 0, M 115 1, N 116 (.call 240 [(.tmp 114), (.tmp 115)]), N 117 (.call 144 [(.tmp 113), (.tmp 116)]), M 8 117] []) .ret) .skip))))))))))))) (.seq (.region 5 [M 118 0, M 119 1, M 120 3, N 121 (.call 143 [(.tmp 118), (.tmp 119), (.tmp 120)]), M 8 121] []) .ret)))) }
theorem fn221 : Gam.fn 221 = some af221 := by kernel_rfl
def af240 : AFun :=
 { ntmps := 11, nslots := 0, results := [.tmp 4], byref := [], owned := false,
   body := (.seq (.region 1 [N 4 (.move (.const (.str [])))] []) (.seq (.seq (.region 2 [M 5 1, N 6 (.binOp .eql (.one .int) (.tmp 5) (I 2))] []) (.cond (.tmp 6) (.seq (.region 3 [M 7 0, N 8 (.call 247 [.tmp 7]), M 4 8] []) .ret) .skip)) (.seq (.region 3 [M 9 0, N 10 (.call 248 [.tmp 9]), M 4 10] []) .ret))) }
theorem fn240 : Gam.fn 240 = some af240 := by kernel_rfl
def af247 : AFun :=
 { ntmps := 25, nslots := 0, results := [.tmp 2], byref := [], owned := false,
   body := (.seq (.region 1 [N 2 (.move (.const (.str [])))] []) (.seq (.seq (.region 2 [M 3 0, N 4 (.call 30 [(.tmp 3), (I 8)])] []) (.block 0 (.seq (.region 2 [N 6 (.binOp .eql (.one .int) (.tmp 4) (I 6)), M 5 6] []) (.cond (.tmp 5) (.seq (.region 5 [M 7 0, N 8 (.call 30 [(.tmp 7), (I 2001)]), N 9 (.binOp .sub (.one .int) (.tmp 8) (I 1000)), N 10 (.call 72 [.tmp 9]), M 2 10] []) .ret) (.seq (.region 2 [N 12 (.binOp .eql (.one .int) (.tmp 4) (I 7)), M 11 12] []) (.cond (.tmp 11) (.seq (.region 9 [M 13 0, N 14 (.call 30 [(.tmp 13), (I 1099511627776)]), N 15 (.binOp .sub (.one .int) (.tmp 14) (I 549755813888)), N 16 (.call 72 [.tmp 15]), M 17 0, N 18 (.call 30 [(.tmp 17), (I 1099511627776)]), N 19 (.call 72 [.tmp 18]), N 20 (.call 254 [(.tmp 16), (.tmp 19)]), M 2 20] []) .ret) .skip)))))) (.seq (.region 5 [M 21 0, N 22 (.call 30 [(.tmp 21), (I 9)]), N 23 (.binOp .sub (.one .int) (.tmp 22) (I 4)), N 24 (.call 72 [.tmp 23]), M 2 24] []) .ret))) }
theorem fn247 : Gam.fn 247 = some af247 := by kernel_rfl
def af248 : AFun :=
 { ntmps := 10, nslots := 0, results := [.tmp 2], byref := [], owned := false,
   body := (.seq (.region 1 [N 2 (.move (.const (.str [])))] []) (.seq (.region 8 [M 3 0, N 4 (.call 247 [.tmp 3]), M 5 0, N 6 (.call 30 [(.tmp 5), (I 4)]), N 7 (.binOp .add (.one .int) (I 1) (.tmp 6)), N 8 (.call 72 [.tmp 7]), N 9 (.call 227 [(.tmp 4), (.tmp 8)]), M 2 9] []) .ret)) }
theorem fn248 : Gam.fn 248 = some af248 := by kernel_rfl
end Go.Proofs.YtbeooboebfbchaaGreatDoor.Am
