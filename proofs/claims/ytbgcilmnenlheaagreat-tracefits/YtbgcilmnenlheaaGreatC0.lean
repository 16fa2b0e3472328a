/- Texts of this claim. -/
import Derived.Test.YtbgcilmnenlheaaGreatB0
set_option linter.unusedSimpArgs false
set_option linter.unusedVariables false
namespace Go.Abs
open Go Go.Proofs
/-! carrack/carracklaw22.TraceFits -/
noncomputable def S3_0 : SC := .ops [
    ⟨.always, (some 4), .assign (.const (.bool false))⟩]
noncomputable def S3_1 : SC := .ops [
    ⟨.always, (some 6), .call ⟨.value (.func 4), #[], #[]⟩⟩,
    ⟨.always, (some 5), .assign (.tmp 6)⟩]
noncomputable def S3_2 : SC := .ops [
    ⟨.always, (some 7), .move (.tmp 0)⟩,
    ⟨.always, (some 8), .call ⟨.builtin .len, #[(.tmp 7)], #[22]⟩⟩,
    ⟨.always, (some 9), .binOp .gtr 3 (.tmp 8) (.const (iv 20)) 3⟩,
    ⟨.always, (some 10), .move (.tmp 9)⟩,
    ⟨(.on 10 false), (some 11), .move (.tmp 1)⟩,
    ⟨(.on 10 false), (some 12), .call ⟨.builtin .len, #[(.tmp 11)], #[23]⟩⟩,
    ⟨(.on 10 false), (some 13), .binOp .gtr 3 (.tmp 12) (.const (iv 20)) 3⟩,
    ⟨.always, (some 14), .pick (.tmp 10) (.const (.bool true)) (.tmp 13)⟩]
noncomputable def S3_3 : SC := .ops [
    ⟨.always, (some 15), .move (.tmp 5)⟩,
    ⟨.always, (some 4), .assign (.tmp 15)⟩]
noncomputable def S3_4 : SC := .seq S3_3 .ret
noncomputable def S3_5 : SC := .cond (.tmp 14) S3_4 .skip
noncomputable def S3_6 : SC := .seq S3_2 S3_5
noncomputable def S3_7 : SC := .ops [
    ⟨.always, (some 16), .move (.tmp 5)⟩,
    ⟨.always, (some 17), .move (.tmp 16)⟩,
    ⟨(.on 17 true), (some 18), .move (.tmp 0)⟩,
    ⟨(.on 17 true), (some 19), .call ⟨.value (.func 6), #[(.tmp 18)], #[22]⟩⟩,
    ⟨(.on 17 true), (some 20), .move (.tmp 1)⟩,
    ⟨(.on 17 true), (some 21), .call ⟨.value (.func 7), #[(.tmp 20)], #[23]⟩⟩,
    ⟨(.on 17 true), (some 22), .call ⟨.value (.func 5), #[(.tmp 19), (.tmp 21)], #[26, 28]⟩⟩,
    ⟨(.on 17 true), (some 23), .move (.tmp 0)⟩,
    ⟨(.on 17 true), (some 24), .move (.tmp 1)⟩,
    ⟨(.on 17 true), (some 25), .call ⟨.value (.func 8), #[(.tmp 23), (.tmp 24)], #[22, 23]⟩⟩,
    ⟨(.on 17 true), (some 26), .binOp .eql 4 (.tmp 22) (.tmp 25) 4⟩,
    ⟨.always, (some 27), .pick (.tmp 17) (.tmp 26) (.const (.bool false))⟩,
    ⟨.always, (some 4), .assign (.tmp 27)⟩]
noncomputable def S3_8 : SC := .seq S3_7 .ret
noncomputable def S3_9 : SC := .seq S3_6 S3_8
noncomputable def S3_10 : SC := .seq S3_1 S3_9
noncomputable def S3_11 : SC := .seq S3_0 S3_10
noncomputable def S3 : SC := S3_11
theorem s3 : Tryz.f3.body.map (slim E0 hm0 3 28) = some S3 := by kernel_rfl
theorem n3 : 2 + (Tryz.f3.ntmps - 2) = 28 := by kernel_rfl
theorem r3 : Tryz.f3.results.toList = [.tmp 4] := by kernel_rfl
theorem fn3 : E0.fns 3 = some Tryz.f3 := Tryz.func3

/-! carrack/trace.Fits -/
noncomputable def S5_0 : SC := .ops [
    ⟨.always, (some 4), .assign (.const (.bool false))⟩]
noncomputable def S5_1 : SC := .ops [
    ⟨.always, (some 11), .makeMap 42 none⟩,
    ⟨.always, (some 5), .assign (.tmp 11)⟩]
noncomputable def S5_2 : SC := .ops [
    ⟨.always, (some 12), .move (.tmp 1)⟩,
    ⟨.always, (some 13), .call ⟨.builtin .len, #[(.tmp 12)], #[28]⟩⟩,
    ⟨.always, (some 14), .move (.const (iv 0))⟩]
noncomputable def S5_3 : SC := .ops [
    ⟨.always, (some 15), .binOp .lss 3 (.tmp 14) (.tmp 13) 3⟩]
noncomputable def S5_4 : SC := .cond (.tmp 15) .skip (.exit 0)
noncomputable def S5_5 : SC := .ops [
    ⟨.always, (some 16), .move (.tmp 14)⟩,
    ⟨.always, (some 17), .indexAddr 28 (.tmp 12) (.tmp 14)⟩,
    ⟨.always, (some 18), .load 44 (.tmp 17)⟩,
    ⟨.always, (some 7), .alloc 44⟩,
    ⟨.always, (some 6), .assign (.tmp 16)⟩,
    ⟨.always, none, .store 44 (.tmp 7) (.tmp 18)⟩]
noncomputable def S5_6 : SC := .draw [] [
    (0, ⟨.always, (some 19), .move (.tmp 6)⟩),
    (0, ⟨.always, (some 20), .binOp .gtr 3 (.tmp 19) (.const (iv 0)) 3⟩),
    (0, ⟨.always, (some 21), .move (.tmp 20)⟩),
    (0, ⟨(.on 21 true), (some 22), .fieldAddr 44 (.tmp 7) 2⟩),
    (2, ⟨(.on 21 true), (some 23), .load 3 (.tmp 22)⟩),
    (0, ⟨(.on 21 true), (some 24), .move (.tmp 1)⟩),
    (0, ⟨(.on 21 true), (some 25), .move (.tmp 6)⟩),
    (0, ⟨(.on 21 true), (some 26), .binOp .sub 3 (.tmp 25) (.const (iv 1)) 3⟩),
    (0, ⟨(.on 21 true), (some 27), .indexAddr 28 (.tmp 24) (.tmp 26)⟩),
    (0, ⟨(.on 21 true), (some 28), .fieldAddr 44 (.tmp 27) 2⟩),
    (2, ⟨(.on 21 true), (some 29), .load 3 (.tmp 28)⟩),
    (0, ⟨(.on 21 true), (some 30), .binOp .lss 3 (.tmp 23) (.tmp 29) 3⟩),
    (0, ⟨.always, (some 31), .pick (.tmp 21) (.tmp 30) (.const (.bool false))⟩)]
noncomputable def S5_7 : SC := .ops [
    ⟨.always, (some 4), .assign (.const (.bool false))⟩]
noncomputable def S5_8 : SC := .seq S5_7 .ret
noncomputable def S5_9 : SC := .cond (.tmp 31) S5_8 .skip
noncomputable def S5_10 : SC := .seq S5_6 S5_9
noncomputable def S5_11 : SC := .ops [
    ⟨.always, (some 32), .fieldAddr 44 (.tmp 7) 0⟩,
    ⟨.always, (some 33), .load 3 (.tmp 32)⟩,
    ⟨.always, (some 34), .binOp .leq 3 (.tmp 33) (.const (iv 0)) 3⟩]
noncomputable def S5_12 : SC := .cond (.tmp 34) (.exit 1) .skip
noncomputable def S5_13 : SC := .seq S5_11 S5_12
noncomputable def S5_14 : SC := .ops [
    ⟨.always, (some 35), .fieldAddr 44 (.tmp 7) 0⟩,
    ⟨.always, (some 36), .load 3 (.tmp 35)⟩,
    ⟨.always, (some 37), .move (.tmp 0)⟩,
    ⟨.always, (some 38), .call ⟨.builtin .len, #[(.tmp 37)], #[26]⟩⟩,
    ⟨.always, (some 39), .binOp .gtr 3 (.tmp 36) (.tmp 38) 3⟩,
    ⟨.always, (some 40), .move (.tmp 39)⟩,
    ⟨(.on 40 false), (some 41), .move (.tmp 5)⟩,
    ⟨(.on 40 false), (some 42), .fieldAddr 44 (.tmp 7) 0⟩,
    ⟨(.on 40 false), (some 43), .load 3 (.tmp 42)⟩,
    ⟨(.on 40 false), (some 44), .binOp .sub 3 (.tmp 43) (.const (iv 1)) 3⟩,
    ⟨(.on 40 false), (some 45), .lookup 42 (.tmp 41) (.tmp 44) false⟩,
    ⟨.always, (some 46), .pick (.tmp 40) (.const (.bool true)) (.tmp 45)⟩]
noncomputable def S5_15 : SC := .ops [
    ⟨.always, (some 4), .assign (.const (.bool false))⟩]
noncomputable def S5_16 : SC := .seq S5_15 .ret
noncomputable def S5_17 : SC := .cond (.tmp 46) S5_16 .skip
noncomputable def S5_18 : SC := .seq S5_14 S5_17
noncomputable def S5_19 : SC := .ops [
    ⟨.always, (some 47), .move (.tmp 0)⟩,
    ⟨.always, (some 48), .fieldAddr 44 (.tmp 7) 0⟩,
    ⟨.always, (some 49), .load 3 (.tmp 48)⟩,
    ⟨.always, (some 50), .binOp .sub 3 (.tmp 49) (.const (iv 1)) 3⟩,
    ⟨.always, (some 51), .indexAddr 26 (.tmp 47) (.tmp 50)⟩,
    ⟨.always, (some 52), .load 51 (.tmp 51)⟩,
    ⟨.always, (some 8), .alloc 51⟩,
    ⟨.always, none, .store 51 (.tmp 8) (.tmp 52)⟩]
noncomputable def S5_20 : SC := .ops [
    ⟨.always, (some 53), .fieldAddr 44 (.tmp 7) 2⟩,
    ⟨.always, (some 54), .load 3 (.tmp 53)⟩,
    ⟨.always, (some 55), .fieldAddr 51 (.tmp 8) 3⟩,
    ⟨.always, (some 56), .load 3 (.tmp 55)⟩,
    ⟨.always, (some 57), .binOp .lss 3 (.tmp 54) (.tmp 56) 3⟩,
    ⟨.always, (some 58), .move (.tmp 57)⟩,
    ⟨(.on 58 false), (some 59), .fieldAddr 51 (.tmp 8) 4⟩,
    ⟨(.on 58 false), (some 60), .load 3 (.tmp 59)⟩,
    ⟨(.on 58 false), (some 61), .binOp .neq 3 (.tmp 60) (.const (iv (-1))) 3⟩,
    ⟨(.on 58 false), (some 62), .move (.tmp 61)⟩,
    ⟨(.on 62 true), (some 63), .fieldAddr 44 (.tmp 7) 2⟩,
    ⟨(.on 62 true), (some 64), .load 3 (.tmp 63)⟩,
    ⟨(.on 62 true), (some 65), .fieldAddr 51 (.tmp 8) 4⟩,
    ⟨(.on 62 true), (some 66), .load 3 (.tmp 65)⟩,
    ⟨(.on 62 true), (some 67), .binOp .gtr 3 (.tmp 64) (.tmp 66) 3⟩,
    ⟨(.on 58 false), (some 68), .pick (.tmp 62) (.tmp 67) (.const (.bool false))⟩,
    ⟨.always, (some 69), .pick (.tmp 58) (.const (.bool true)) (.tmp 68)⟩]
noncomputable def S5_21 : SC := .ops [
    ⟨.always, (some 4), .assign (.const (.bool false))⟩]
noncomputable def S5_22 : SC := .seq S5_21 .ret
noncomputable def S5_23 : SC := .cond (.tmp 69) S5_22 .skip
noncomputable def S5_24 : SC := .seq S5_20 S5_23
noncomputable def S5_25 : SC := .ops [
    ⟨.always, (some 70), .move (.tmp 5)⟩,
    ⟨.always, (some 71), .fieldAddr 44 (.tmp 7) 0⟩,
    ⟨.always, (some 72), .load 3 (.tmp 71)⟩,
    ⟨.always, (some 73), .binOp .sub 3 (.tmp 72) (.const (iv 1)) 3⟩,
    ⟨.always, none, .mapUpdate 42 (.tmp 70) (.tmp 73) (.const (.bool true))⟩]
noncomputable def S5_26 : SC := .seq S5_24 S5_25
noncomputable def S5_27 : SC := .seq S5_19 S5_26
noncomputable def S5_28 : SC := .seq S5_18 S5_27
noncomputable def S5_29 : SC := .seq S5_13 S5_28
noncomputable def S5_30 : SC := .seq S5_10 S5_29
noncomputable def S5_31 : SC := .seq S5_5 S5_30
noncomputable def S5_32 : SC := .blk 1 S5_31
noncomputable def S5_33 : SC := .ops [
    ⟨.always, (some 74), .binOp .add 3 (.tmp 14) (.const (iv 1)) 3⟩,
    ⟨.always, (some 14), .move (.tmp 74)⟩]
noncomputable def S5_34 : SC := .seq S5_32 S5_33
noncomputable def S5_35 : SC := .seq S5_4 S5_34
noncomputable def S5_36 : SC := .seq S5_3 S5_35
noncomputable def S5_37 : SC := .loop S5_36
noncomputable def S5_38 : SC := .blk 0 S5_37
noncomputable def S5_39 : SC := .seq S5_2 S5_38
noncomputable def S5_40 : SC := .ops [
    ⟨.always, (some 75), .move (.tmp 0)⟩,
    ⟨.always, (some 76), .call ⟨.builtin .len, #[(.tmp 75)], #[26]⟩⟩,
    ⟨.always, (some 77), .move (.const (iv 0))⟩]
noncomputable def S5_41 : SC := .ops [
    ⟨.always, (some 78), .binOp .lss 3 (.tmp 77) (.tmp 76) 3⟩]
noncomputable def S5_42 : SC := .cond (.tmp 78) .skip (.exit 2)
noncomputable def S5_43 : SC := .ops [
    ⟨.always, (some 79), .move (.tmp 77)⟩,
    ⟨.always, (some 80), .indexAddr 26 (.tmp 75) (.tmp 77)⟩,
    ⟨.always, (some 81), .load 51 (.tmp 80)⟩,
    ⟨.always, (some 10), .alloc 51⟩,
    ⟨.always, (some 9), .assign (.tmp 79)⟩,
    ⟨.always, none, .store 51 (.tmp 10) (.tmp 81)⟩]
noncomputable def S5_44 : SC := .ops [
    ⟨.always, (some 82), .fieldAddr 51 (.tmp 10) 4⟩,
    ⟨.always, (some 83), .load 3 (.tmp 82)⟩,
    ⟨.always, (some 84), .binOp .neq 3 (.tmp 83) (.const (iv (-1))) 3⟩,
    ⟨.always, (some 85), .move (.tmp 84)⟩,
    ⟨(.on 85 true), (some 86), .move (.tmp 5)⟩,
    ⟨(.on 85 true), (some 87), .move (.tmp 9)⟩,
    ⟨(.on 85 true), (some 88), .lookup 42 (.tmp 86) (.tmp 87) false⟩,
    ⟨(.on 85 true), (some 89), .unOp .not 4 (.tmp 88)⟩,
    ⟨.always, (some 90), .pick (.tmp 85) (.tmp 89) (.const (.bool false))⟩]
noncomputable def S5_45 : SC := .ops [
    ⟨.always, (some 4), .assign (.const (.bool false))⟩]
noncomputable def S5_46 : SC := .seq S5_45 .ret
noncomputable def S5_47 : SC := .cond (.tmp 90) S5_46 .skip
noncomputable def S5_48 : SC := .seq S5_44 S5_47
noncomputable def S5_49 : SC := .seq S5_43 S5_48
noncomputable def S5_50 : SC := .blk 3 S5_49
noncomputable def S5_51 : SC := .ops [
    ⟨.always, (some 91), .binOp .add 3 (.tmp 77) (.const (iv 1)) 3⟩,
    ⟨.always, (some 77), .move (.tmp 91)⟩]
noncomputable def S5_52 : SC := .seq S5_50 S5_51
noncomputable def S5_53 : SC := .seq S5_42 S5_52
noncomputable def S5_54 : SC := .seq S5_41 S5_53
noncomputable def S5_55 : SC := .loop S5_54
noncomputable def S5_56 : SC := .blk 2 S5_55
noncomputable def S5_57 : SC := .seq S5_40 S5_56
noncomputable def S5_58 : SC := .ops [
    ⟨.always, (some 4), .assign (.const (.bool true))⟩]
noncomputable def S5_59 : SC := .seq S5_58 .ret
noncomputable def S5_60 : SC := .seq S5_57 S5_59
noncomputable def S5_61 : SC := .seq S5_39 S5_60
noncomputable def S5_62 : SC := .seq S5_1 S5_61
noncomputable def S5_63 : SC := .seq S5_0 S5_62
noncomputable def S5 : SC := S5_63
theorem s5 : Tryz.f5.body.map (slim E0 hm0 5 92) = some S5 := by kernel_rfl
theorem n5 : 2 + (Tryz.f5.ntmps - 2) = 92 := by kernel_rfl
theorem r5 : Tryz.f5.results.toList = [.tmp 4] := by kernel_rfl
theorem fn5 : E0.fns 5 = some Tryz.f5 := Tryz.func5

/-! carrack/carracklaw22.records -/
noncomputable def S6_0 : SC := .ops [
    ⟨.always, (some 2), .assign (.const (.slice none 0 0))⟩]
noncomputable def S6_1 : SC := .ops [
    ⟨.always, (some 3), .assign (.const (.slice none 0 0))⟩]
noncomputable def S6_2 : SC := .ops [
    ⟨.always, (some 4), .assign (.const (iv 0))⟩]
noncomputable def S6_3 : SC := .ops [
    ⟨.always, (some 5), .move (.tmp 4)⟩,
    ⟨.always, (some 6), .move (.tmp 0)⟩,
    ⟨.always, (some 7), .call ⟨.builtin .len, #[(.tmp 6)], #[22]⟩⟩,
    ⟨.always, (some 8), .binOp .lss 3 (.tmp 5) (.tmp 7) 3⟩]
noncomputable def S6_4 : SC := .cond (.tmp 8) .skip (.exit 0)
noncomputable def S6_5 : SC := .seq S6_3 S6_4
noncomputable def S6_6 : SC := .draw [] [
    (0, ⟨.always, (some 11), .move (.tmp 3)⟩),
    (0, ⟨.always, (some 12), .move (.tmp 0)⟩),
    (0, ⟨.always, (some 13), .move (.tmp 4)⟩),
    (0, ⟨.always, (some 14), .indexAddr 22 (.tmp 12) (.tmp 13)⟩),
    (0, ⟨.always, (some 15), .fieldAddr 53 (.tmp 14) 0⟩),
    (2, ⟨.always, (some 16), .load 3 (.tmp 15)⟩),
    (0, ⟨.always, (some 17), .move (.tmp 0)⟩),
    (0, ⟨.always, (some 18), .move (.tmp 4)⟩),
    (0, ⟨.always, (some 19), .indexAddr 22 (.tmp 17) (.tmp 18)⟩),
    (0, ⟨.always, (some 20), .fieldAddr 53 (.tmp 19) 1⟩),
    (2, ⟨.always, (some 21), .load 46 (.tmp 20)⟩),
    (0, ⟨.always, (some 22), .move (.tmp 0)⟩),
    (0, ⟨.always, (some 23), .move (.tmp 4)⟩),
    (0, ⟨.always, (some 24), .indexAddr 22 (.tmp 22) (.tmp 23)⟩),
    (0, ⟨.always, (some 25), .fieldAddr 53 (.tmp 24) 2⟩),
    (2, ⟨.always, (some 26), .load 49 (.tmp 25)⟩),
    (0, ⟨.always, (some 27), .move (.tmp 0)⟩),
    (0, ⟨.always, (some 28), .move (.tmp 4)⟩),
    (0, ⟨.always, (some 29), .indexAddr 22 (.tmp 27) (.tmp 28)⟩),
    (0, ⟨.always, (some 30), .fieldAddr 53 (.tmp 29) 3⟩),
    (2, ⟨.always, (some 31), .load 3 (.tmp 30)⟩),
    (0, ⟨.always, (some 32), .move (.tmp 0)⟩),
    (0, ⟨.always, (some 33), .move (.tmp 4)⟩),
    (0, ⟨.always, (some 34), .indexAddr 22 (.tmp 32) (.tmp 33)⟩),
    (0, ⟨.always, (some 35), .fieldAddr 53 (.tmp 34) 4⟩),
    (2, ⟨.always, (some 36), .load 3 (.tmp 35)⟩),
    (0, ⟨.always, (some 37), .build 51 #[(0, (.tmp 16)), (1, (.tmp 21)), (2, (.tmp 26)), (3, (.tmp 31)), (4, (.tmp 36))]⟩),
    (1, ⟨.always, (some 38), .buildSlice 26 1 #[(0, (.tmp 37))]⟩),
    (4, ⟨.always, (some 39), .call ⟨.builtin .append, #[(.tmp 11), (.tmp 38)], #[26, 26]⟩⟩),
    (4, ⟨.always, (some 3), .assign (.tmp 39)⟩)]
noncomputable def S6_7 : SC := .blk 1 S6_6
noncomputable def S6_8 : SC := .ops [
    ⟨.always, (some 9), .move (.tmp 4)⟩,
    ⟨.always, (some 10), .binOp .add 3 (.tmp 9) (.const (iv 1)) 3⟩,
    ⟨.always, (some 4), .assign (.tmp 10)⟩]
noncomputable def S6_9 : SC := .seq S6_7 S6_8
noncomputable def S6_10 : SC := .seq S6_5 S6_9
noncomputable def S6_11 : SC := .loop S6_10
noncomputable def S6_12 : SC := .blk 0 S6_11
noncomputable def S6_13 : SC := .seq S6_2 S6_12
noncomputable def S6_14 : SC := .ops [
    ⟨.always, (some 40), .move (.tmp 3)⟩,
    ⟨.always, (some 2), .assign (.tmp 40)⟩]
noncomputable def S6_15 : SC := .seq S6_14 .ret
noncomputable def S6_16 : SC := .seq S6_13 S6_15
noncomputable def S6_17 : SC := .seq S6_1 S6_16
noncomputable def S6_18 : SC := .seq S6_0 S6_17
noncomputable def S6 : SC := S6_18
theorem s6 : Tryz.f6.body.map (slim E0 hm0 6 41) = some S6 := by kernel_rfl
theorem n6 : 1 + (Tryz.f6.ntmps - 1) = 41 := by kernel_rfl
theorem r6 : Tryz.f6.results.toList = [.tmp 2] := by kernel_rfl
theorem fn6 : E0.fns 6 = some Tryz.f6 := Tryz.func6

/-! carrack/carracklaw22.events -/
noncomputable def S7_0 : SC := .ops [
    ⟨.always, (some 2), .assign (.const (.slice none 0 0))⟩]
noncomputable def S7_1 : SC := .ops [
    ⟨.always, (some 3), .assign (.const (.slice none 0 0))⟩]
noncomputable def S7_2 : SC := .ops [
    ⟨.always, (some 4), .assign (.const (iv 0))⟩]
noncomputable def S7_3 : SC := .ops [
    ⟨.always, (some 5), .move (.tmp 4)⟩,
    ⟨.always, (some 6), .move (.tmp 0)⟩,
    ⟨.always, (some 7), .call ⟨.builtin .len, #[(.tmp 6)], #[23]⟩⟩,
    ⟨.always, (some 8), .binOp .lss 3 (.tmp 5) (.tmp 7) 3⟩]
noncomputable def S7_4 : SC := .cond (.tmp 8) .skip (.exit 0)
noncomputable def S7_5 : SC := .seq S7_3 S7_4
noncomputable def S7_6 : SC := .draw [] [
    (0, ⟨.always, (some 11), .move (.tmp 3)⟩),
    (0, ⟨.always, (some 12), .move (.tmp 0)⟩),
    (0, ⟨.always, (some 13), .move (.tmp 4)⟩),
    (0, ⟨.always, (some 14), .indexAddr 23 (.tmp 12) (.tmp 13)⟩),
    (0, ⟨.always, (some 15), .fieldAddr 54 (.tmp 14) 0⟩),
    (2, ⟨.always, (some 16), .load 3 (.tmp 15)⟩),
    (0, ⟨.always, (some 17), .move (.tmp 0)⟩),
    (0, ⟨.always, (some 18), .move (.tmp 4)⟩),
    (0, ⟨.always, (some 19), .indexAddr 23 (.tmp 17) (.tmp 18)⟩),
    (0, ⟨.always, (some 20), .fieldAddr 54 (.tmp 19) 1⟩),
    (2, ⟨.always, (some 21), .load 3 (.tmp 20)⟩),
    (0, ⟨.always, (some 22), .move (.tmp 0)⟩),
    (0, ⟨.always, (some 23), .move (.tmp 4)⟩),
    (0, ⟨.always, (some 24), .indexAddr 23 (.tmp 22) (.tmp 23)⟩),
    (0, ⟨.always, (some 25), .fieldAddr 54 (.tmp 24) 2⟩),
    (2, ⟨.always, (some 26), .load 3 (.tmp 25)⟩),
    (0, ⟨.always, (some 27), .build 44 #[(0, (.tmp 16)), (1, (.tmp 21)), (2, (.tmp 26))]⟩),
    (1, ⟨.always, (some 28), .buildSlice 28 1 #[(0, (.tmp 27))]⟩),
    (4, ⟨.always, (some 29), .call ⟨.builtin .append, #[(.tmp 11), (.tmp 28)], #[28, 28]⟩⟩),
    (4, ⟨.always, (some 3), .assign (.tmp 29)⟩)]
noncomputable def S7_7 : SC := .blk 1 S7_6
noncomputable def S7_8 : SC := .ops [
    ⟨.always, (some 9), .move (.tmp 4)⟩,
    ⟨.always, (some 10), .binOp .add 3 (.tmp 9) (.const (iv 1)) 3⟩,
    ⟨.always, (some 4), .assign (.tmp 10)⟩]
noncomputable def S7_9 : SC := .seq S7_7 S7_8
noncomputable def S7_10 : SC := .seq S7_5 S7_9
noncomputable def S7_11 : SC := .loop S7_10
noncomputable def S7_12 : SC := .blk 0 S7_11
noncomputable def S7_13 : SC := .seq S7_2 S7_12
noncomputable def S7_14 : SC := .ops [
    ⟨.always, (some 30), .move (.tmp 3)⟩,
    ⟨.always, (some 2), .assign (.tmp 30)⟩]
noncomputable def S7_15 : SC := .seq S7_14 .ret
noncomputable def S7_16 : SC := .seq S7_13 S7_15
noncomputable def S7_17 : SC := .seq S7_1 S7_16
noncomputable def S7_18 : SC := .seq S7_0 S7_17
noncomputable def S7 : SC := S7_18
theorem s7 : Tryz.f7.body.map (slim E0 hm0 7 31) = some S7 := by kernel_rfl
theorem n7 : 1 + (Tryz.f7.ntmps - 1) = 31 := by kernel_rfl
theorem r7 : Tryz.f7.results.toList = [.tmp 2] := by kernel_rfl
theorem fn7 : E0.fns 7 = some Tryz.f7 := Tryz.func7

/-! carrack/carrackref22.Fits -/
noncomputable def S8_0 : SC := .ops [
    ⟨.always, (some 4), .assign (.const (.bool false))⟩]
noncomputable def S8_1 : SC := .ops [
    ⟨.always, (some 5), .assign (.const (.slice none 0 0))⟩]
noncomputable def S8_2 : SC := .ops [
    ⟨.always, (some 6), .assign (.const (iv 0))⟩]
noncomputable def S8_3 : SC := .ops [
    ⟨.always, (some 10), .move (.tmp 6)⟩,
    ⟨.always, (some 11), .move (.tmp 0)⟩,
    ⟨.always, (some 12), .call ⟨.builtin .len, #[(.tmp 11)], #[22]⟩⟩,
    ⟨.always, (some 13), .binOp .lss 3 (.tmp 10) (.tmp 12) 3⟩]
noncomputable def S8_4 : SC := .cond (.tmp 13) .skip (.exit 0)
noncomputable def S8_5 : SC := .seq S8_3 S8_4
noncomputable def S8_6 : SC := .ops [
    ⟨.always, (some 16), .move (.tmp 5)⟩,
    ⟨.always, (some 17), .buildSlice 40 1 #[(0, (.const (iv 0)))]⟩,
    ⟨.always, (some 18), .call ⟨.builtin .append, #[(.tmp 16), (.tmp 17)], #[40, 40]⟩⟩,
    ⟨.always, (some 5), .assign (.tmp 18)⟩]
noncomputable def S8_7 : SC := .blk 1 S8_6
noncomputable def S8_8 : SC := .ops [
    ⟨.always, (some 14), .move (.tmp 6)⟩,
    ⟨.always, (some 15), .binOp .add 3 (.tmp 14) (.const (iv 1)) 3⟩,
    ⟨.always, (some 6), .assign (.tmp 15)⟩]
noncomputable def S8_9 : SC := .seq S8_7 S8_8
noncomputable def S8_10 : SC := .seq S8_5 S8_9
noncomputable def S8_11 : SC := .loop S8_10
noncomputable def S8_12 : SC := .blk 0 S8_11
noncomputable def S8_13 : SC := .seq S8_2 S8_12
noncomputable def S8_14 : SC := .ops [
    ⟨.always, (some 7), .assign (.const (iv 0))⟩]
noncomputable def S8_15 : SC := .ops [
    ⟨.always, (some 19), .move (.tmp 7)⟩,
    ⟨.always, (some 20), .move (.tmp 1)⟩,
    ⟨.always, (some 21), .call ⟨.builtin .len, #[(.tmp 20)], #[23]⟩⟩,
    ⟨.always, (some 22), .binOp .lss 3 (.tmp 19) (.tmp 21) 3⟩]
noncomputable def S8_16 : SC := .cond (.tmp 22) .skip (.exit 2)
noncomputable def S8_17 : SC := .seq S8_15 S8_16
noncomputable def S8_18 : SC := .draw [] [
    (0, ⟨.always, (some 25), .move (.tmp 7)⟩),
    (0, ⟨.always, (some 26), .binOp .gtr 3 (.tmp 25) (.const (iv 0)) 3⟩),
    (0, ⟨.always, (some 27), .move (.tmp 26)⟩),
    (0, ⟨(.on 27 true), (some 28), .move (.tmp 1)⟩),
    (0, ⟨(.on 27 true), (some 29), .move (.tmp 7)⟩),
    (0, ⟨(.on 27 true), (some 30), .indexAddr 23 (.tmp 28) (.tmp 29)⟩),
    (0, ⟨(.on 27 true), (some 31), .fieldAddr 54 (.tmp 30) 2⟩),
    (2, ⟨(.on 27 true), (some 32), .load 3 (.tmp 31)⟩),
    (0, ⟨(.on 27 true), (some 33), .move (.tmp 1)⟩),
    (0, ⟨(.on 27 true), (some 34), .move (.tmp 7)⟩),
    (0, ⟨(.on 27 true), (some 35), .binOp .sub 3 (.tmp 34) (.const (iv 1)) 3⟩),
    (0, ⟨(.on 27 true), (some 36), .indexAddr 23 (.tmp 33) (.tmp 35)⟩),
    (0, ⟨(.on 27 true), (some 37), .fieldAddr 54 (.tmp 36) 2⟩),
    (2, ⟨(.on 27 true), (some 38), .load 3 (.tmp 37)⟩),
    (0, ⟨(.on 27 true), (some 39), .binOp .lss 3 (.tmp 32) (.tmp 38) 3⟩),
    (0, ⟨.always, (some 40), .pick (.tmp 27) (.tmp 39) (.const (.bool false))⟩)]
noncomputable def S8_19 : SC := .ops [
    ⟨.always, (some 4), .assign (.const (.bool false))⟩]
noncomputable def S8_20 : SC := .seq S8_19 .ret
noncomputable def S8_21 : SC := .cond (.tmp 40) S8_20 .skip
noncomputable def S8_22 : SC := .seq S8_18 S8_21
noncomputable def S8_23 : SC := .ops [
    ⟨.always, (some 41), .move (.tmp 1)⟩,
    ⟨.always, (some 42), .move (.tmp 7)⟩,
    ⟨.always, (some 43), .indexAddr 23 (.tmp 41) (.tmp 42)⟩,
    ⟨.always, (some 44), .fieldAddr 54 (.tmp 43) 0⟩,
    ⟨.always, (some 45), .load 3 (.tmp 44)⟩,
    ⟨.always, (some 46), .binOp .leq 3 (.tmp 45) (.const (iv 0)) 3⟩]
noncomputable def S8_24 : SC := .cond (.tmp 46) (.exit 3) .skip
noncomputable def S8_25 : SC := .seq S8_23 S8_24
noncomputable def S8_26 : SC := .ops [
    ⟨.always, (some 47), .move (.tmp 1)⟩,
    ⟨.always, (some 48), .move (.tmp 7)⟩,
    ⟨.always, (some 49), .indexAddr 23 (.tmp 47) (.tmp 48)⟩,
    ⟨.always, (some 50), .fieldAddr 54 (.tmp 49) 0⟩,
    ⟨.always, (some 51), .load 3 (.tmp 50)⟩,
    ⟨.always, (some 52), .binOp .sub 3 (.tmp 51) (.const (iv 1)) 3⟩,
    ⟨.always, (some 8), .assign (.tmp 52)⟩]
noncomputable def S8_27 : SC := .draw [] [
    (0, ⟨.always, (some 53), .move (.tmp 8)⟩),
    (0, ⟨.always, (some 54), .move (.tmp 0)⟩),
    (2, ⟨.always, (some 55), .call ⟨.builtin .len, #[(.tmp 54)], #[22]⟩⟩),
    (0, ⟨.always, (some 56), .binOp .geq 3 (.tmp 53) (.tmp 55) 3⟩),
    (0, ⟨.always, (some 57), .move (.tmp 56)⟩),
    (0, ⟨(.on 57 false), (some 58), .move (.tmp 5)⟩),
    (0, ⟨(.on 57 false), (some 59), .move (.tmp 8)⟩),
    (0, ⟨(.on 57 false), (some 60), .indexAddr 40 (.tmp 58) (.tmp 59)⟩),
    (2, ⟨(.on 57 false), (some 61), .load 3 (.tmp 60)⟩),
    (0, ⟨(.on 57 false), (some 62), .binOp .gtr 3 (.tmp 61) (.const (iv 0)) 3⟩),
    (0, ⟨.always, (some 63), .pick (.tmp 57) (.const (.bool true)) (.tmp 62)⟩),
    (0, ⟨.always, (some 64), .move (.tmp 63)⟩),
    (0, ⟨(.on 64 false), (some 65), .move (.tmp 1)⟩),
    (0, ⟨(.on 64 false), (some 66), .move (.tmp 7)⟩),
    (0, ⟨(.on 64 false), (some 67), .indexAddr 23 (.tmp 65) (.tmp 66)⟩),
    (0, ⟨(.on 64 false), (some 68), .fieldAddr 54 (.tmp 67) 2⟩),
    (2, ⟨(.on 64 false), (some 69), .load 3 (.tmp 68)⟩),
    (0, ⟨(.on 64 false), (some 70), .move (.tmp 0)⟩),
    (0, ⟨(.on 64 false), (some 71), .move (.tmp 8)⟩),
    (0, ⟨(.on 64 false), (some 72), .indexAddr 22 (.tmp 70) (.tmp 71)⟩),
    (0, ⟨(.on 64 false), (some 73), .fieldAddr 53 (.tmp 72) 3⟩),
    (2, ⟨(.on 64 false), (some 74), .load 3 (.tmp 73)⟩),
    (0, ⟨(.on 64 false), (some 75), .binOp .lss 3 (.tmp 69) (.tmp 74) 3⟩),
    (0, ⟨.always, (some 76), .pick (.tmp 64) (.const (.bool true)) (.tmp 75)⟩),
    (0, ⟨.always, (some 77), .move (.tmp 76)⟩),
    (0, ⟨(.on 77 false), (some 78), .move (.tmp 0)⟩),
    (0, ⟨(.on 77 false), (some 79), .move (.tmp 8)⟩),
    (0, ⟨(.on 77 false), (some 80), .indexAddr 22 (.tmp 78) (.tmp 79)⟩),
    (0, ⟨(.on 77 false), (some 81), .fieldAddr 53 (.tmp 80) 4⟩),
    (2, ⟨(.on 77 false), (some 82), .load 3 (.tmp 81)⟩),
    (0, ⟨(.on 77 false), (some 83), .binOp .neq 3 (.tmp 82) (.const (iv (-1))) 3⟩),
    (0, ⟨(.on 77 false), (some 84), .move (.tmp 83)⟩),
    (0, ⟨(.on 84 true), (some 85), .move (.tmp 1)⟩),
    (0, ⟨(.on 84 true), (some 86), .move (.tmp 7)⟩),
    (0, ⟨(.on 84 true), (some 87), .indexAddr 23 (.tmp 85) (.tmp 86)⟩),
    (0, ⟨(.on 84 true), (some 88), .fieldAddr 54 (.tmp 87) 2⟩),
    (2, ⟨(.on 84 true), (some 89), .load 3 (.tmp 88)⟩),
    (0, ⟨(.on 84 true), (some 90), .move (.tmp 0)⟩),
    (0, ⟨(.on 84 true), (some 91), .move (.tmp 8)⟩),
    (0, ⟨(.on 84 true), (some 92), .indexAddr 22 (.tmp 90) (.tmp 91)⟩),
    (0, ⟨(.on 84 true), (some 93), .fieldAddr 53 (.tmp 92) 4⟩),
    (2, ⟨(.on 84 true), (some 94), .load 3 (.tmp 93)⟩),
    (0, ⟨(.on 84 true), (some 95), .binOp .gtr 3 (.tmp 89) (.tmp 94) 3⟩),
    (0, ⟨(.on 77 false), (some 96), .pick (.tmp 84) (.tmp 95) (.const (.bool false))⟩),
    (0, ⟨.always, (some 97), .pick (.tmp 77) (.const (.bool true)) (.tmp 96)⟩)]
noncomputable def S8_28 : SC := .ops [
    ⟨.always, (some 4), .assign (.const (.bool false))⟩]
noncomputable def S8_29 : SC := .seq S8_28 .ret
noncomputable def S8_30 : SC := .cond (.tmp 97) S8_29 .skip
noncomputable def S8_31 : SC := .seq S8_27 S8_30
noncomputable def S8_32 : SC := .ops [
    ⟨.always, (some 98), .move (.tmp 5)⟩,
    ⟨.always, (some 99), .move (.tmp 8)⟩,
    ⟨.always, (some 100), .indexAddr 40 (.tmp 98) (.tmp 99)⟩,
    ⟨.always, none, .store 3 (.tmp 100) (.const (iv 1))⟩]
noncomputable def S8_33 : SC := .seq S8_31 S8_32
noncomputable def S8_34 : SC := .seq S8_26 S8_33
noncomputable def S8_35 : SC := .seq S8_25 S8_34
noncomputable def S8_36 : SC := .seq S8_22 S8_35
noncomputable def S8_37 : SC := .blk 3 S8_36
noncomputable def S8_38 : SC := .ops [
    ⟨.always, (some 23), .move (.tmp 7)⟩,
    ⟨.always, (some 24), .binOp .add 3 (.tmp 23) (.const (iv 1)) 3⟩,
    ⟨.always, (some 7), .assign (.tmp 24)⟩]
noncomputable def S8_39 : SC := .seq S8_37 S8_38
noncomputable def S8_40 : SC := .seq S8_17 S8_39
noncomputable def S8_41 : SC := .loop S8_40
noncomputable def S8_42 : SC := .blk 2 S8_41
noncomputable def S8_43 : SC := .seq S8_14 S8_42
noncomputable def S8_44 : SC := .ops [
    ⟨.always, (some 9), .assign (.const (iv 0))⟩]
noncomputable def S8_45 : SC := .ops [
    ⟨.always, (some 101), .move (.tmp 9)⟩,
    ⟨.always, (some 102), .move (.tmp 0)⟩,
    ⟨.always, (some 103), .call ⟨.builtin .len, #[(.tmp 102)], #[22]⟩⟩,
    ⟨.always, (some 104), .binOp .lss 3 (.tmp 101) (.tmp 103) 3⟩]
noncomputable def S8_46 : SC := .cond (.tmp 104) .skip (.exit 4)
noncomputable def S8_47 : SC := .seq S8_45 S8_46
noncomputable def S8_48 : SC := .ops [
    ⟨.always, (some 107), .move (.tmp 0)⟩,
    ⟨.always, (some 108), .move (.tmp 9)⟩,
    ⟨.always, (some 109), .indexAddr 22 (.tmp 107) (.tmp 108)⟩,
    ⟨.always, (some 110), .fieldAddr 53 (.tmp 109) 4⟩,
    ⟨.always, (some 111), .load 3 (.tmp 110)⟩,
    ⟨.always, (some 112), .binOp .neq 3 (.tmp 111) (.const (iv (-1))) 3⟩,
    ⟨.always, (some 113), .move (.tmp 112)⟩,
    ⟨(.on 113 true), (some 114), .move (.tmp 5)⟩,
    ⟨(.on 113 true), (some 115), .move (.tmp 9)⟩,
    ⟨(.on 113 true), (some 116), .indexAddr 40 (.tmp 114) (.tmp 115)⟩,
    ⟨(.on 113 true), (some 117), .load 3 (.tmp 116)⟩,
    ⟨(.on 113 true), (some 118), .binOp .eql 3 (.tmp 117) (.const (iv 0)) 3⟩,
    ⟨.always, (some 119), .pick (.tmp 113) (.tmp 118) (.const (.bool false))⟩]
noncomputable def S8_49 : SC := .ops [
    ⟨.always, (some 4), .assign (.const (.bool false))⟩]
noncomputable def S8_50 : SC := .seq S8_49 .ret
noncomputable def S8_51 : SC := .cond (.tmp 119) S8_50 .skip
noncomputable def S8_52 : SC := .seq S8_48 S8_51
noncomputable def S8_53 : SC := .blk 5 S8_52
noncomputable def S8_54 : SC := .ops [
    ⟨.always, (some 105), .move (.tmp 9)⟩,
    ⟨.always, (some 106), .binOp .add 3 (.tmp 105) (.const (iv 1)) 3⟩,
    ⟨.always, (some 9), .assign (.tmp 106)⟩]
noncomputable def S8_55 : SC := .seq S8_53 S8_54
noncomputable def S8_56 : SC := .seq S8_47 S8_55
noncomputable def S8_57 : SC := .loop S8_56
noncomputable def S8_58 : SC := .blk 4 S8_57
noncomputable def S8_59 : SC := .seq S8_44 S8_58
noncomputable def S8_60 : SC := .ops [
    ⟨.always, (some 4), .assign (.const (.bool true))⟩]
noncomputable def S8_61 : SC := .seq S8_60 .ret
noncomputable def S8_62 : SC := .seq S8_59 S8_61
noncomputable def S8_63 : SC := .seq S8_43 S8_62
noncomputable def S8_64 : SC := .seq S8_13 S8_63
noncomputable def S8_65 : SC := .seq S8_1 S8_64
noncomputable def S8_66 : SC := .seq S8_0 S8_65
noncomputable def S8 : SC := S8_66
theorem s8 : Tryz.f8.body.map (slim E0 hm0 8 120) = some S8 := by kernel_rfl
theorem n8 : 2 + (Tryz.f8.ntmps - 2) = 120 := by kernel_rfl
theorem r8 : Tryz.f8.results.toList = [.tmp 4] := by kernel_rfl
theorem fn8 : E0.fns 8 = some Tryz.f8 := Tryz.func8

end Go.Abs

namespace Go.Abs
open Go Go.Proofs
theorem ia28 {i off len cap k : Nat} {kd : IntKind} (hk : k < len) : aIndexAddr E0 28 (.slice (some ⟨i, off, none⟩) len cap) (.int kd (k : Int)) = some (ptr i (off + k * 3)) := ia_eq (by kernel_rfl) hk
theorem iau28 {i off len cap k : Nat} (hk : k < len) : aIndexAddr E0 28 (.slice (some ⟨i, off, none⟩) len cap) (u k) = some (ptr i (off + k * 3)) := ia28 hk
theorem iai28 {i off len cap k : Nat} (hk : k < len) : aIndexAddr E0 28 (.slice (some ⟨i, off, none⟩) len cap) (iv (k : Int)) = some (ptr i (off + k * 3)) := ia28 hk
theorem ldA44 {i off : Nat} {A : AHeap} : aLoad E0 44 (ptr i off) A = A.cells i off 3 := ldA_eq (by kernel_rfl) (by kernel_rfl)
theorem al44 {A : AHeap} : aAlloc E0 44 A = some (ptr A.next 0, A.push (.cells false 0 3 [(iv 0), (iv 0), (iv 0)] .e)) := al_eq (z := (.agg #[(iv 0), (iv 0), (iv 0)])) (by kernel_rfl)
theorem stA44 {i off : Nat} {A : AHeap} {v : Value} (h : A.owns i off 3) (hv : v.cells.size = 3) (h1 : v.cells.toList.all Value.oneCell' = true) : aStore E0 44 (ptr i off) v A = some (A.puts i off v.cells.toList) := stA_eq (by kernel_rfl) h hv h1
theorem fa44_2 {i off : Nat} : aFieldAddr E0 44 (ptr i off) 2 = some (ptr i (off + 2)) := fa_eq (by kernel_rfl)
theorem ld3 {i off : Nat} {A : AHeap} : aLoad E0 3 (ptr i off) A = A.cell i off := ld_eq (by kernel_rfl)
theorem fa44_0 {i off : Nat} : aFieldAddr E0 44 (ptr i off) 0 = some (ptr i (off + 0)) := fa_eq (by kernel_rfl)
theorem ia26 {i off len cap k : Nat} {kd : IntKind} (hk : k < len) : aIndexAddr E0 26 (.slice (some ⟨i, off, none⟩) len cap) (.int kd (k : Int)) = some (ptr i (off + k * 15)) := ia_eq (by kernel_rfl) hk
theorem iau26 {i off len cap k : Nat} (hk : k < len) : aIndexAddr E0 26 (.slice (some ⟨i, off, none⟩) len cap) (u k) = some (ptr i (off + k * 15)) := ia26 hk
theorem iai26 {i off len cap k : Nat} (hk : k < len) : aIndexAddr E0 26 (.slice (some ⟨i, off, none⟩) len cap) (iv (k : Int)) = some (ptr i (off + k * 15)) := ia26 hk
theorem ldA51 {i off : Nat} {A : AHeap} : aLoad E0 51 (ptr i off) A = A.cells i off 15 := ldA_eq (by kernel_rfl) (by kernel_rfl)
theorem al51 {A : AHeap} : aAlloc E0 51 A = some (ptr A.next 0, A.push (.cells false 0 15 [(iv 0), (iv 0), (u 0), (u 0), (u 0), (u 0), (u 0), (iv 0), (.string ⟨#[]⟩), (iv 0), (u 0), (u 0), (iv 0), (iv 0), (.bool false)] .e)) := al_eq (z := (.agg #[(iv 0), (iv 0), (u 0), (u 0), (u 0), (u 0), (u 0), (iv 0), (.string ⟨#[]⟩), (iv 0), (u 0), (u 0), (iv 0), (iv 0), (.bool false)])) (by kernel_rfl)
theorem stA51 {i off : Nat} {A : AHeap} {v : Value} (h : A.owns i off 15) (hv : v.cells.size = 15) (h1 : v.cells.toList.all Value.oneCell' = true) : aStore E0 51 (ptr i off) v A = some (A.puts i off v.cells.toList) := stA_eq (by kernel_rfl) h hv h1
theorem fa51_3 {i off : Nat} : aFieldAddr E0 51 (ptr i off) 3 = some (ptr i (off + 12)) := fa_eq (by kernel_rfl)
theorem fa51_4 {i off : Nat} : aFieldAddr E0 51 (ptr i off) 4 = some (ptr i (off + 13)) := fa_eq (by kernel_rfl)
theorem ia22 {i off len cap k : Nat} {kd : IntKind} (hk : k < len) : aIndexAddr E0 22 (.slice (some ⟨i, off, none⟩) len cap) (.int kd (k : Int)) = some (ptr i (off + k * 14)) := ia_eq (by kernel_rfl) hk
theorem iau22 {i off len cap k : Nat} (hk : k < len) : aIndexAddr E0 22 (.slice (some ⟨i, off, none⟩) len cap) (u k) = some (ptr i (off + k * 14)) := ia22 hk
theorem iai22 {i off len cap k : Nat} (hk : k < len) : aIndexAddr E0 22 (.slice (some ⟨i, off, none⟩) len cap) (iv (k : Int)) = some (ptr i (off + k * 14)) := ia22 hk
theorem fa53_0 {i off : Nat} : aFieldAddr E0 53 (ptr i off) 0 = some (ptr i (off + 0)) := fa_eq (by kernel_rfl)
theorem fa53_1 {i off : Nat} : aFieldAddr E0 53 (ptr i off) 1 = some (ptr i (off + 1)) := fa_eq (by kernel_rfl)
theorem ldA46 {i off : Nat} {A : AHeap} : aLoad E0 46 (ptr i off) A = A.cells i off 8 := ldA_eq (by kernel_rfl) (by kernel_rfl)
theorem fa53_2 {i off : Nat} : aFieldAddr E0 53 (ptr i off) 2 = some (ptr i (off + 9)) := fa_eq (by kernel_rfl)
theorem ldA49 {i off : Nat} {A : AHeap} : aLoad E0 49 (ptr i off) A = A.cells i off 3 := ldA_eq (by kernel_rfl) (by kernel_rfl)
theorem fa53_3 {i off : Nat} : aFieldAddr E0 53 (ptr i off) 3 = some (ptr i (off + 12)) := fa_eq (by kernel_rfl)
theorem fa53_4 {i off : Nat} : aFieldAddr E0 53 (ptr i off) 4 = some (ptr i (off + 13)) := fa_eq (by kernel_rfl)
theorem ia23 {i off len cap k : Nat} {kd : IntKind} (hk : k < len) : aIndexAddr E0 23 (.slice (some ⟨i, off, none⟩) len cap) (.int kd (k : Int)) = some (ptr i (off + k * 3)) := ia_eq (by kernel_rfl) hk
theorem iau23 {i off len cap k : Nat} (hk : k < len) : aIndexAddr E0 23 (.slice (some ⟨i, off, none⟩) len cap) (u k) = some (ptr i (off + k * 3)) := ia23 hk
theorem iai23 {i off len cap k : Nat} (hk : k < len) : aIndexAddr E0 23 (.slice (some ⟨i, off, none⟩) len cap) (iv (k : Int)) = some (ptr i (off + k * 3)) := ia23 hk
theorem fa54_0 {i off : Nat} : aFieldAddr E0 54 (ptr i off) 0 = some (ptr i (off + 0)) := fa_eq (by kernel_rfl)
theorem fa54_1 {i off : Nat} : aFieldAddr E0 54 (ptr i off) 1 = some (ptr i (off + 1)) := fa_eq (by kernel_rfl)
theorem fa54_2 {i off : Nat} : aFieldAddr E0 54 (ptr i off) 2 = some (ptr i (off + 2)) := fa_eq (by kernel_rfl)
theorem ia40 {i off len cap k : Nat} {kd : IntKind} (hk : k < len) : aIndexAddr E0 40 (.slice (some ⟨i, off, none⟩) len cap) (.int kd (k : Int)) = some (ptr i (off + k * 1)) := ia_eq (by kernel_rfl) hk
theorem iau40 {i off len cap k : Nat} (hk : k < len) : aIndexAddr E0 40 (.slice (some ⟨i, off, none⟩) len cap) (u k) = some (ptr i (off + k * 1)) := ia40 hk
theorem iai40 {i off len cap k : Nat} (hk : k < len) : aIndexAddr E0 40 (.slice (some ⟨i, off, none⟩) len cap) (iv (k : Int)) = some (ptr i (off + k * 1)) := ia40 hk
theorem st3 {i off : Nat} {A : AHeap} {v : Value} (h : A.own i off) (hv : v.cells = #[v]) (h1 : v.oneCell' = true) : aStore E0 3 (ptr i off) v A = some (A.put i off v) := st_eq (by kernel_rfl) h hv h1
end Go.Abs
