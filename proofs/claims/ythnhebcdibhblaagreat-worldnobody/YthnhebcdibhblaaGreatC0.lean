/- Texts of this claim. -/
import Derived.Test.YthnhebcdibhblaaGreatB0
set_option linter.unusedSimpArgs false
set_option linter.unusedVariables false
namespace Go.Abs
open Go Go.Proofs
/-! carrack/carracklaw21.WorldNobody -/
noncomputable def S3_0 : SC := .ops [
    ⟨.always, (some 6), .assign (.const (.bool false))⟩]
noncomputable def S3_1 : SC := .ops [
    ⟨.always, (some 11), .call ⟨.value (.func 4), #[], #[]⟩⟩,
    ⟨.always, (some 7), .assign (.tmp 11)⟩]
noncomputable def S3_2 : SC := .ops [
    ⟨.always, (some 8), .assign (.const (.pointer none))⟩]
noncomputable def S3_3 : SC := .ops [
    ⟨.always, (some 12), .move (.tmp 0)⟩,
    ⟨.always, (some 13), .move (.tmp 1)⟩,
    ⟨.always, (some 14), .call ⟨.value (.func 5), #[(.tmp 12), (.tmp 13)], #[22, 22]⟩⟩,
    ⟨.always, (some 9), .assign (.tmp 14)⟩]
noncomputable def S3_4 : SC := .ops [
    ⟨.always, (some 15), .move (.tmp 0)⟩,
    ⟨.always, (some 16), .binOp .rem 22 (.tmp 15) (.const (u 16)) 22⟩,
    ⟨.always, (some 17), .binOp .eql 22 (.tmp 16) (.const (u 0)) 22⟩,
    ⟨.always, (some 18), .move (.tmp 17)⟩,
    ⟨(.on 18 true), (some 19), .move (.tmp 0)⟩,
    ⟨(.on 18 true), (some 20), .binOp .geq 22 (.tmp 19) (.const (u 3824)) 22⟩,
    ⟨.always, (some 21), .pick (.tmp 18) (.tmp 20) (.const (.bool false))⟩,
    ⟨.always, (some 22), .move (.tmp 21)⟩,
    ⟨(.on 22 true), (some 23), .move (.tmp 0)⟩,
    ⟨(.on 22 true), (some 24), .move (.tmp 1)⟩,
    ⟨(.on 22 true), (some 25), .binOp .leq 22 (.tmp 23) (.tmp 24) 22⟩,
    ⟨.always, (some 26), .pick (.tmp 22) (.tmp 25) (.const (.bool false))⟩,
    ⟨.always, (some 27), .move (.tmp 26)⟩,
    ⟨(.on 27 true), (some 28), .move (.tmp 1)⟩,
    ⟨(.on 27 true), (some 29), .binOp .rem 22 (.tmp 28) (.const (u 8)) 22⟩,
    ⟨(.on 27 true), (some 30), .binOp .eql 22 (.tmp 29) (.const (u 0)) 22⟩,
    ⟨.always, (some 31), .pick (.tmp 27) (.tmp 30) (.const (.bool false))⟩,
    ⟨.always, (some 32), .move (.tmp 31)⟩,
    ⟨(.on 32 true), (some 33), .move (.tmp 1)⟩,
    ⟨(.on 32 true), (some 34), .binOp .leq 22 (.tmp 33) (.const (u 1048576)) 22⟩,
    ⟨.always, (some 35), .pick (.tmp 32) (.tmp 34) (.const (.bool false))⟩,
    ⟨.always, (some 10), .assign (.tmp 35)⟩]
noncomputable def S3_5 : SC := .ops [
    ⟨.always, (some 36), .move (.tmp 7)⟩,
    ⟨.always, (some 37), .move (.tmp 36)⟩,
    ⟨(.on 37 true), (some 38), .move (.tmp 9)⟩,
    ⟨(.on 37 true), (some 39), .binOp .neq 24 (.tmp 38) (.const (.pointer none)) 24⟩,
    ⟨(.on 37 true), (some 40), .move (.tmp 10)⟩,
    ⟨(.on 37 true), (some 41), .binOp .eql 4 (.tmp 39) (.tmp 40) 4⟩,
    ⟨.always, (some 42), .pick (.tmp 37) (.tmp 41) (.const (.bool false))⟩,
    ⟨.always, (some 43), .move (.tmp 42)⟩,
    ⟨(.on 43 true), (some 44), .move (.tmp 8)⟩,
    ⟨(.on 43 true), (some 45), .move (.tmp 2)⟩,
    ⟨(.on 43 true), (some 46), .build 29 #[(0, (.const (iv 15)))]⟩,
    ⟨(.on 43 true), (some 47), .call ⟨.value (.func 6), #[(.tmp 44), (.tmp 45), (.tmp 46)], #[24, 3, 29]⟩⟩,
    ⟨(.on 43 true), (some 48), .binOp .eql 26 (.tmp 47) (.const (iv 1)) 26⟩,
    ⟨.always, (some 49), .pick (.tmp 43) (.tmp 48) (.const (.bool false))⟩,
    ⟨.always, (some 50), .move (.tmp 49)⟩,
    ⟨(.on 50 true), (some 51), .move (.tmp 8)⟩,
    ⟨(.on 50 true), (some 52), .move (.tmp 2)⟩,
    ⟨(.on 50 true), (some 53), .call ⟨.value (.func 7), #[(.tmp 51), (.tmp 52)], #[24, 3]⟩⟩,
    ⟨(.on 50 true), (some 54), .unOp .not 4 (.tmp 53)⟩,
    ⟨.always, (some 55), .pick (.tmp 50) (.tmp 54) (.const (.bool false))⟩,
    ⟨.always, (some 56), .move (.tmp 55)⟩,
    ⟨(.on 56 true), (some 57), .move (.tmp 8)⟩,
    ⟨(.on 56 true), (some 58), .move (.tmp 2)⟩,
    ⟨(.on 56 true), (some 59), .call ⟨.value (.func 8), #[(.tmp 57), (.tmp 58)], #[24, 3]⟩⟩,
    ⟨(.on 56 true), (some 60), .binOp .eql 26 (.tmp 59) (.const (iv 1)) 26⟩,
    ⟨.always, (some 61), .pick (.tmp 56) (.tmp 60) (.const (.bool false))⟩,
    ⟨.always, (some 62), .move (.tmp 61)⟩,
    ⟨(.on 62 true), (some 63), .move (.tmp 8)⟩,
    ⟨(.on 62 true), (some 64), .call ⟨.value (.func 9), #[(.tmp 63)], #[24]⟩⟩,
    ⟨(.on 62 true), (some 65), .call ⟨.builtin .len, #[(.tmp 64)], #[32]⟩⟩,
    ⟨(.on 62 true), (some 66), .binOp .eql 3 (.tmp 65) (.const (iv 0)) 3⟩,
    ⟨.always, (some 67), .pick (.tmp 62) (.tmp 66) (.const (.bool false))⟩,
    ⟨.always, (some 68), .move (.tmp 67)⟩,
    ⟨(.on 68 true), (some 69), .move (.tmp 8)⟩,
    ⟨(.on 68 true), (some 70), .call ⟨.value (.func 10), #[(.tmp 69)], #[24]⟩⟩,
    ⟨(.on 68 true), (some 71), .call ⟨.builtin .len, #[(.tmp 70)], #[34]⟩⟩,
    ⟨(.on 68 true), (some 72), .binOp .eql 3 (.tmp 71) (.const (iv 0)) 3⟩,
    ⟨.always, (some 73), .pick (.tmp 68) (.tmp 72) (.const (.bool false))⟩,
    ⟨.always, (some 74), .move (.tmp 73)⟩,
    ⟨(.on 74 true), (some 75), .move (.tmp 8)⟩,
    ⟨(.on 74 true), (some 76), .move (.tmp 2)⟩,
    ⟨(.on 74 true), (some 77), .call ⟨.value (.func 11), #[(.tmp 75), (.tmp 76)], #[24, 3]⟩⟩,
    ⟨(.on 74 true), (some 78), .unOp .not 4 (.tmp 77)⟩,
    ⟨.always, (some 79), .pick (.tmp 74) (.tmp 78) (.const (.bool false))⟩,
    ⟨.always, (some 80), .move (.tmp 79)⟩,
    ⟨(.on 80 true), (some 81), .move (.tmp 8)⟩,
    ⟨(.on 80 true), (some 82), .call ⟨.value (.func 12), #[(.tmp 81)], #[24]⟩⟩,
    ⟨(.on 80 true), (some 83), .unOp .not 4 (.tmp 82)⟩,
    ⟨.always, (some 84), .pick (.tmp 80) (.tmp 83) (.const (.bool false))⟩,
    ⟨.always, (some 85), .move (.tmp 84)⟩,
    ⟨(.on 85 true), (some 86), .move (.tmp 8)⟩,
    ⟨(.on 85 true), (some 87), .call ⟨.value (.func 13), #[(.tmp 86)], #[24]⟩⟩,
    ⟨(.on 85 true), (some 88), .binOp .eql 3 (.tmp 87) (.const (iv 0)) 3⟩,
    ⟨.always, (some 89), .pick (.tmp 85) (.tmp 88) (.const (.bool false))⟩,
    ⟨.always, (some 90), .move (.tmp 89)⟩,
    ⟨(.on 90 true), (some 91), .move (.tmp 8)⟩,
    ⟨(.on 90 true), (some 92), .call ⟨.value (.func 14), #[(.tmp 91)], #[24]⟩⟩,
    ⟨(.on 90 true), (some 93), .binOp .eql 37 (.tmp 92) (.const (.pointer none)) 37⟩,
    ⟨.always, (some 94), .pick (.tmp 90) (.tmp 93) (.const (.bool false))⟩,
    ⟨.always, (some 95), .move (.tmp 94)⟩,
    ⟨(.on 95 true), (some 96), .move (.tmp 10)⟩,
    ⟨(.on 95 true), (some 97), .unOp .not 4 (.tmp 96)⟩,
    ⟨(.on 95 true), (some 98), .move (.tmp 97)⟩,
    ⟨(.on 98 false), (some 99), .move (.tmp 9)⟩,
    ⟨(.on 98 false), (some 100), .call ⟨.value (.func 13), #[(.tmp 99)], #[24]⟩⟩,
    ⟨(.on 98 false), (some 101), .binOp .eql 3 (.tmp 100) (.const (iv 0)) 3⟩,
    ⟨(.on 98 false), (some 102), .move (.tmp 101)⟩,
    ⟨(.on 102 true), (some 103), .move (.tmp 9)⟩,
    ⟨(.on 102 true), (some 104), .call ⟨.value (.func 12), #[(.tmp 103)], #[24]⟩⟩,
    ⟨(.on 98 false), (some 105), .pick (.tmp 102) (.tmp 104) (.const (.bool false))⟩,
    ⟨(.on 98 false), (some 106), .move (.tmp 105)⟩,
    ⟨(.on 106 true), (some 107), .move (.tmp 9)⟩,
    ⟨(.on 106 true), (some 108), .call ⟨.value (.func 9), #[(.tmp 107)], #[24]⟩⟩,
    ⟨(.on 106 true), (some 109), .call ⟨.builtin .len, #[(.tmp 108)], #[32]⟩⟩,
    ⟨(.on 106 true), (some 110), .binOp .eql 3 (.tmp 109) (.const (iv 0)) 3⟩,
    ⟨(.on 98 false), (some 111), .pick (.tmp 106) (.tmp 110) (.const (.bool false))⟩,
    ⟨(.on 95 true), (some 112), .pick (.tmp 98) (.const (.bool true)) (.tmp 111)⟩,
    ⟨.always, (some 113), .pick (.tmp 95) (.tmp 112) (.const (.bool false))⟩,
    ⟨.always, (some 6), .assign (.tmp 113)⟩]
noncomputable def S3_6 : SC := .seq S3_5 .ret
noncomputable def S3_7 : SC := .seq S3_4 S3_6
noncomputable def S3_8 : SC := .seq S3_3 S3_7
noncomputable def S3_9 : SC := .seq S3_2 S3_8
noncomputable def S3_10 : SC := .seq S3_1 S3_9
noncomputable def S3_11 : SC := .seq S3_0 S3_10
noncomputable def S3 : SC := S3_11
theorem s3 : Tryz.f3.body.map (slim E0 hm0 3 114) = some S3 := by kernel_rfl
theorem n3 : 3 + (Tryz.f3.ntmps - 3) = 114 := by kernel_rfl
theorem r3 : Tryz.f3.results.toList = [.tmp 6] := by kernel_rfl
theorem fn3 : E0.fns 3 = some Tryz.f3 := Tryz.func3

/-! carrack/world.New -/
noncomputable def S5_0 : SC := .ops [
    ⟨.always, (some 4), .assign (.const (.pointer none))⟩]
noncomputable def S5_1 : SC := .ops [
    ⟨.always, (some 6), .move (.tmp 1)⟩,
    ⟨.always, (some 7), .call ⟨.value (.func 17), #[(.tmp 6)], #[22]⟩⟩,
    ⟨.always, (some 5), .assign (.tmp 7)⟩]
noncomputable def S5_2 : SC := .ops [
    ⟨.always, (some 8), .move (.tmp 5)⟩,
    ⟨.always, (some 9), .move (.tmp 0)⟩,
    ⟨.always, (some 10), .call ⟨.value (.func 18), #[(.tmp 8), (.tmp 9)], #[37, 22]⟩⟩,
    ⟨.always, (some 11), .binOp .neq 26 (.tmp 10) (.const (iv 0)) 26⟩]
noncomputable def S5_3 : SC := .ops [
    ⟨.always, (some 4), .assign (.const (.pointer none))⟩]
noncomputable def S5_4 : SC := .seq S5_3 .ret
noncomputable def S5_5 : SC := .cond (.tmp 11) S5_4 .skip
noncomputable def S5_6 : SC := .seq S5_2 S5_5
noncomputable def S5_7 : SC := .ops [
    ⟨.always, (some 12), .move (.tmp 5)⟩,
    ⟨.always, (some 13), .build 56 #[(0, (.tmp 12))]⟩,
    ⟨.always, (some 14), .box 56 (.tmp 13)⟩,
    ⟨.always, (some 4), .assign (.tmp 14)⟩]
noncomputable def S5_8 : SC := .seq S5_7 .ret
noncomputable def S5_9 : SC := .seq S5_6 S5_8
noncomputable def S5_10 : SC := .seq S5_1 S5_9
noncomputable def S5_11 : SC := .seq S5_0 S5_10
noncomputable def S5 : SC := S5_11
theorem s5 : Tryz.f5.body.map (slim E0 hm0 5 15) = some S5 := by kernel_rfl
theorem n5 : 2 + (Tryz.f5.ntmps - 2) = 15 := by kernel_rfl
theorem r5 : Tryz.f5.results.toList = [.tmp 4] := by kernel_rfl
theorem fn5 : E0.fns 5 = some Tryz.f5 := Tryz.func5

/-! (*carrack/world.World).Begin -/
noncomputable def S6_0 : SC := .ops [
    ⟨.always, (some 5), .box 29 (.tmp 2)⟩,
    ⟨.always, (some 6), .assign (.const (iv 0))⟩]
noncomputable def S6_1 : SC := .ops [
    ⟨.always, (some 8), .move (.tmp 0)⟩,
    ⟨.always, (some 9), .move (.tmp 1)⟩,
    ⟨.always, (some 10), .call ⟨.value (.func 19), #[(.tmp 8), (.tmp 9)], #[24, 3]⟩⟩,
    ⟨.always, (some 11), .unOp .not 4 (.tmp 10)⟩,
    ⟨.always, (some 7), .assign (.tmp 11)⟩]
noncomputable def S6_2 : SC := .ops [
    ⟨.always, (some 6), .assign (.const (iv 1))⟩]
noncomputable def S6_3 : SC := .seq S6_2 .ret
noncomputable def S6_4 : SC := .ops [
    ⟨.always, (some 13), .move (.tmp 0)⟩,
    ⟨.always, (some 14), .move (.tmp 1)⟩,
    ⟨.always, (some 15), .nilCheck (.tmp 13)⟩,
    ⟨.always, (some 16), .fieldAddr 56 (.tmp 15) 1⟩,
    ⟨.always, (some 17), .indexAddr 49 (.tmp 16) (.tmp 14)⟩,
    ⟨.always, (some 18), .load 48 (.tmp 17)⟩,
    ⟨.always, (some 19), .binOp .neq 48 (.tmp 18) (.const (.pointer none)) 48⟩,
    ⟨.always, (some 12), .assign (.tmp 19)⟩]
noncomputable def S6_5 : SC := .ops [
    ⟨.always, (some 6), .assign (.const (iv 11))⟩]
noncomputable def S6_6 : SC := .seq S6_5 .ret
noncomputable def S6_7 : SC := .ops [
    ⟨.always, (some 21), .move (.tmp 0)⟩,
    ⟨.always, (some 22), .move (.tmp 1)⟩,
    ⟨.always, (some 23), .call ⟨.value (.func 20), #[(.tmp 21), (.tmp 22)], #[24, 3]⟩⟩,
    ⟨.always, (some 24), .binOp .eql 22 (.tmp 23) (.const (u 2)) 22⟩,
    ⟨.always, (some 20), .assign (.tmp 24)⟩]
noncomputable def S6_8 : SC := .ops [
    ⟨.always, (some 6), .assign (.const (iv 13))⟩]
noncomputable def S6_9 : SC := .seq S6_8 .ret
noncomputable def S6_10 : SC := .cond (.tmp 20) S6_9 .skip
noncomputable def S6_11 : SC := .seq S6_7 S6_10
noncomputable def S6_12 : SC := .cond (.tmp 12) S6_6 S6_11
noncomputable def S6_13 : SC := .seq S6_4 S6_12
noncomputable def S6_14 : SC := .cond (.tmp 7) S6_3 S6_13
noncomputable def S6_15 : SC := .seq S6_1 S6_14
noncomputable def S6_16 : SC := .blk 0 S6_15
noncomputable def S6_17 : SC := .draw [] [
    (0, ⟨.always, (some 25), .move (.tmp 0)⟩),
    (0, ⟨.always, (some 26), .move (.tmp 1)⟩),
    (0, ⟨.always, (some 27), .move (.tmp 0)⟩),
    (0, ⟨.always, (some 28), .nilCheck (.tmp 27)⟩),
    (0, ⟨.always, (some 29), .fieldAddr 56 (.tmp 28) 0⟩),
    (2, ⟨.always, (some 30), .load 37 (.tmp 29)⟩),
    (0, ⟨.always, (some 31), .move (.tmp 1)⟩),
    (2, ⟨.always, (some 32), .load 29 (.tmp 5)⟩),
    (3, ⟨.always, (some 33), .call ⟨.value (.func 21), #[(.tmp 30), (.tmp 31), (.tmp 32)], #[37, 3, 29]⟩⟩),
    (0, ⟨.always, (some 34), .move (.tmp 0)⟩),
    (0, ⟨.always, (some 35), .nilCheck (.tmp 34)⟩),
    (0, ⟨.always, (some 36), .fieldAddr 56 (.tmp 35) 2⟩),
    (5, ⟨.always, (some 37), .load 32 (.tmp 36)⟩),
    (5, ⟨.always, (some 38), .call ⟨.builtin .len, #[(.tmp 37)], #[32]⟩⟩),
    (0, ⟨.always, (some 39), .build 61 #[(0, (.tmp 33)), (1, (.tmp 38))]⟩),
    (1, ⟨.always, (some 40), .box 61 (.tmp 39)⟩),
    (0, ⟨.always, (some 41), .nilCheck (.tmp 25)⟩),
    (0, ⟨.always, (some 42), .fieldAddr 56 (.tmp 41) 1⟩),
    (0, ⟨.always, (some 43), .indexAddr 49 (.tmp 42) (.tmp 26)⟩),
    (4, ⟨.always, none, .store 48 (.tmp 43) (.tmp 40)⟩)]
noncomputable def S6_18 : SC := .draw [] [
    (0, ⟨.always, (some 44), .move (.tmp 0)⟩),
    (0, ⟨.always, (some 45), .move (.tmp 0)⟩),
    (0, ⟨.always, (some 46), .nilCheck (.tmp 45)⟩),
    (0, ⟨.always, (some 47), .fieldAddr 56 (.tmp 46) 2⟩),
    (2, ⟨.always, (some 48), .load 32 (.tmp 47)⟩),
    (0, ⟨.always, (some 49), .move (.tmp 1)⟩),
    (2, ⟨.always, (some 50), .load 29 (.tmp 5)⟩),
    (0, ⟨.always, (some 51), .move (.tmp 0)⟩),
    (3, ⟨.always, (some 52), .call ⟨.value (.func 13), #[(.tmp 51)], #[24]⟩⟩),
    (0, ⟨.always, (some 53), .build 45 #[(0, (.tmp 49)), (1, (.tmp 50)), (3, (.tmp 52)), (4, (.const (iv (-1))))]⟩),
    (1, ⟨.always, (some 54), .buildSlice 32 1 #[(0, (.tmp 53))]⟩),
    (4, ⟨.always, (some 55), .call ⟨.builtin .append, #[(.tmp 48), (.tmp 54)], #[32, 32]⟩⟩),
    (4, ⟨.always, (some 56), .nilCheck (.tmp 44)⟩),
    (4, ⟨.always, (some 57), .fieldAddr 56 (.tmp 56) 2⟩),
    (4, ⟨.always, none, .store 32 (.tmp 57) (.tmp 55)⟩)]
noncomputable def S6_19 : SC := .ops [
    ⟨.always, (some 58), .move (.tmp 0)⟩,
    ⟨.always, (some 59), .nilCheck (.tmp 58)⟩,
    ⟨.always, (some 60), .fieldAddr 56 (.tmp 59) 4⟩,
    ⟨.always, (some 61), .call ⟨.value (.func 22), #[(.tmp 60), (.const (iv 1))], #[54, 2]⟩⟩]
noncomputable def S6_20 : SC := .ops [
    ⟨.always, (some 6), .assign (.const (iv 0))⟩]
noncomputable def S6_21 : SC := .seq S6_20 .ret
noncomputable def S6_22 : SC := .seq S6_19 S6_21
noncomputable def S6_23 : SC := .seq S6_18 S6_22
noncomputable def S6_24 : SC := .seq S6_17 S6_23
noncomputable def S6_25 : SC := .seq S6_16 S6_24
noncomputable def S6_26 : SC := .seq S6_0 S6_25
noncomputable def S6 : SC := S6_26
theorem s6 : Tryz.f6.body.map (slim E0 hm0 6 62) = some S6 := by kernel_rfl
theorem n6 : 3 + (Tryz.f6.ntmps - 3) = 62 := by kernel_rfl
theorem r6 : Tryz.f6.results.toList = [.tmp 6] := by kernel_rfl
theorem fn6 : E0.fns 6 = some Tryz.f6 := Tryz.func6

/-! (*carrack/world.World).Pick -/
noncomputable def S7_0 : SC := .ops [
    ⟨.always, (some 4), .assign (.const (.bool false))⟩]
noncomputable def S7_1 : SC := .ops [
    ⟨.always, (some 9), .move (.tmp 0)⟩,
    ⟨.always, (some 10), .move (.tmp 1)⟩,
    ⟨.always, (some 11), .call ⟨.value (.func 11), #[(.tmp 9), (.tmp 10)], #[24, 3]⟩⟩,
    ⟨.always, (some 12), .unOp .not 4 (.tmp 11)⟩]
noncomputable def S7_2 : SC := .ops [
    ⟨.always, (some 4), .assign (.const (.bool false))⟩]
noncomputable def S7_3 : SC := .seq S7_2 .ret
noncomputable def S7_4 : SC := .cond (.tmp 12) S7_3 .skip
noncomputable def S7_5 : SC := .seq S7_1 S7_4
noncomputable def S7_6 : SC := .ops [
    ⟨.always, (some 13), .move (.tmp 0)⟩,
    ⟨.always, (some 14), .nilCheck (.tmp 13)⟩,
    ⟨.always, (some 15), .fieldAddr 56 (.tmp 14) 4⟩,
    ⟨.always, none, .defer ⟨.value (.func 22), #[(.tmp 15), (.const (iv 1))], #[54, 2]⟩⟩]
noncomputable def S7_7 : SC := .ops [
    ⟨.always, (some 16), .move (.tmp 0)⟩,
    ⟨.always, (some 17), .move (.tmp 1)⟩,
    ⟨.always, (some 18), .nilCheck (.tmp 16)⟩,
    ⟨.always, (some 19), .fieldAddr 56 (.tmp 18) 1⟩,
    ⟨.always, (some 20), .indexAddr 49 (.tmp 19) (.tmp 17)⟩,
    ⟨.always, (some 21), .load 48 (.tmp 20)⟩,
    ⟨.always, (some 5), .assign (.tmp 21)⟩]
noncomputable def S7_8 : SC := .ops [
    ⟨.always, (some 22), .move (.tmp 5)⟩,
    ⟨.always, (some 23), .nilCheck (.tmp 22)⟩,
    ⟨.always, (some 24), .fieldAddr 61 (.tmp 23) 0⟩,
    ⟨.always, (some 25), .load 58 (.tmp 24)⟩,
    ⟨.always, (some 26), .call ⟨.value (.func 23), #[(.tmp 25)], #[58]⟩⟩,
    ⟨.always, (some 6), .alloc 64⟩,
    ⟨.always, none, .store 64 (.tmp 6) (.tmp 26)⟩]
noncomputable def S7_9 : SC := .ops [
    ⟨.always, (some 27), .fieldAddr 64 (.tmp 6) 2⟩,
    ⟨.always, (some 28), .load 3 (.tmp 27)⟩,
    ⟨.always, (some 29), .binOp .gtr 3 (.tmp 28) (.const (iv 0)) 3⟩]
noncomputable def S7_10 : SC := .draw [] [
    (0, ⟨.always, (some 30), .move (.tmp 0)⟩),
    (0, ⟨.always, (some 31), .move (.tmp 0)⟩),
    (0, ⟨.always, (some 32), .nilCheck (.tmp 31)⟩),
    (0, ⟨.always, (some 33), .fieldAddr 56 (.tmp 32) 3⟩),
    (2, ⟨.always, (some 34), .load 34 (.tmp 33)⟩),
    (0, ⟨.always, (some 35), .fieldAddr 64 (.tmp 6) 2⟩),
    (2, ⟨.always, (some 36), .load 3 (.tmp 35)⟩),
    (0, ⟨.always, (some 37), .move (.tmp 0)⟩),
    (3, ⟨.always, (some 38), .call ⟨.value (.func 13), #[(.tmp 37)], #[24]⟩⟩),
    (0, ⟨.always, (some 39), .build 67 #[(1, (.tmp 36)), (2, (.tmp 38))]⟩),
    (1, ⟨.always, (some 40), .buildSlice 34 1 #[(0, (.tmp 39))]⟩),
    (4, ⟨.always, (some 41), .call ⟨.builtin .append, #[(.tmp 34), (.tmp 40)], #[34, 34]⟩⟩),
    (4, ⟨.always, (some 42), .nilCheck (.tmp 30)⟩),
    (4, ⟨.always, (some 43), .fieldAddr 56 (.tmp 42) 3⟩),
    (4, ⟨.always, none, .store 34 (.tmp 43) (.tmp 41)⟩)]
noncomputable def S7_11 : SC := .cond (.tmp 29) S7_10 .skip
noncomputable def S7_12 : SC := .seq S7_9 S7_11
noncomputable def S7_13 : SC := .ops [
    ⟨.always, (some 44), .fieldAddr 64 (.tmp 6) 0⟩,
    ⟨.always, (some 45), .load 4 (.tmp 44)⟩]
noncomputable def S7_14 : SC := .draw [] [
    (0, ⟨.always, (some 46), .move (.tmp 0)⟩),
    (0, ⟨.always, (some 47), .move (.tmp 0)⟩),
    (0, ⟨.always, (some 48), .nilCheck (.tmp 47)⟩),
    (0, ⟨.always, (some 49), .fieldAddr 56 (.tmp 48) 3⟩),
    (2, ⟨.always, (some 50), .load 34 (.tmp 49)⟩),
    (0, ⟨.always, (some 51), .move (.tmp 5)⟩),
    (0, ⟨.always, (some 52), .nilCheck (.tmp 51)⟩),
    (0, ⟨.always, (some 53), .fieldAddr 61 (.tmp 52) 1⟩),
    (2, ⟨.always, (some 54), .load 3 (.tmp 53)⟩),
    (0, ⟨.always, (some 55), .binOp .add 3 (.tmp 54) (.const (iv 1)) 3⟩),
    (0, ⟨.always, (some 56), .move (.tmp 0)⟩),
    (3, ⟨.always, (some 57), .call ⟨.value (.func 13), #[(.tmp 56)], #[24]⟩⟩),
    (0, ⟨.always, (some 58), .build 67 #[(0, (.tmp 55)), (2, (.tmp 57))]⟩),
    (1, ⟨.always, (some 59), .buildSlice 34 1 #[(0, (.tmp 58))]⟩),
    (4, ⟨.always, (some 60), .call ⟨.builtin .append, #[(.tmp 50), (.tmp 59)], #[34, 34]⟩⟩),
    (4, ⟨.always, (some 61), .nilCheck (.tmp 46)⟩),
    (4, ⟨.always, (some 62), .fieldAddr 56 (.tmp 61) 3⟩),
    (4, ⟨.always, none, .store 34 (.tmp 62) (.tmp 60)⟩)]
noncomputable def S7_15 : SC := .cond (.tmp 45) S7_14 .skip
noncomputable def S7_16 : SC := .seq S7_13 S7_15
noncomputable def S7_17 : SC := .ops [
    ⟨.always, (some 63), .fieldAddr 64 (.tmp 6) 1⟩,
    ⟨.always, (some 64), .load 4 (.tmp 63)⟩]
noncomputable def S7_18 : SC := .ops [
    ⟨.always, (some 66), .move (.tmp 5)⟩,
    ⟨.always, (some 67), .nilCheck (.tmp 66)⟩,
    ⟨.always, (some 68), .fieldAddr 61 (.tmp 67) 0⟩,
    ⟨.always, (some 69), .load 58 (.tmp 68)⟩,
    ⟨.always, (some 70), .call ⟨.value (.func 24), #[(.tmp 69)], #[58]⟩⟩,
    ⟨.always, (some 65), .move (.tmp 70)⟩,
    ⟨.always, (some 71), .extract (.tmp 65) 0⟩,
    ⟨.always, (some 72), .extract (.tmp 65) 1⟩,
    ⟨.always, (some 7), .alloc 43⟩,
    ⟨.always, none, .store 43 (.tmp 7) (.tmp 71)⟩,
    ⟨.always, (some 8), .assign (.tmp 72)⟩]
noncomputable def S7_19 : SC := .draw [] [
    (0, ⟨.always, (some 73), .move (.tmp 0)⟩),
    (0, ⟨.always, (some 74), .nilCheck (.tmp 73)⟩),
    (0, ⟨.always, (some 75), .fieldAddr 56 (.tmp 74) 2⟩),
    (2, ⟨.always, (some 76), .load 32 (.tmp 75)⟩),
    (0, ⟨.always, (some 77), .move (.tmp 5)⟩),
    (0, ⟨.always, (some 78), .nilCheck (.tmp 77)⟩),
    (0, ⟨.always, (some 79), .fieldAddr 61 (.tmp 78) 1⟩),
    (2, ⟨.always, (some 80), .load 3 (.tmp 79)⟩),
    (0, ⟨.always, (some 81), .move (.tmp 0)⟩),
    (0, ⟨.always, (some 82), .nilCheck (.tmp 81)⟩),
    (0, ⟨.always, (some 83), .fieldAddr 56 (.tmp 82) 2⟩),
    (2, ⟨.always, (some 84), .load 32 (.tmp 83)⟩),
    (0, ⟨.always, (some 85), .move (.tmp 5)⟩),
    (0, ⟨.always, (some 86), .nilCheck (.tmp 85)⟩),
    (0, ⟨.always, (some 87), .fieldAddr 61 (.tmp 86) 1⟩),
    (2, ⟨.always, (some 88), .load 3 (.tmp 87)⟩),
    (2, ⟨.always, (some 89), .load 43 (.tmp 7)⟩),
    (0, ⟨.always, (some 90), .move (.tmp 0)⟩),
    (3, ⟨.always, (some 91), .call ⟨.value (.func 13), #[(.tmp 90)], #[24]⟩⟩),
    (0, ⟨.always, (some 92), .indexAddr 32 (.tmp 76) (.tmp 80)⟩),
    (0, ⟨.always, (some 93), .fieldAddr 45 (.tmp 92) 2⟩),
    (4, ⟨.always, none, .store 43 (.tmp 93) (.tmp 89)⟩),
    (4, ⟨.always, (some 94), .indexAddr 32 (.tmp 84) (.tmp 88)⟩),
    (4, ⟨.always, (some 95), .fieldAddr 45 (.tmp 94) 4⟩),
    (4, ⟨.always, none, .store 3 (.tmp 95) (.tmp 91)⟩)]
noncomputable def S7_20 : SC := .ops [
    ⟨.always, (some 96), .move (.tmp 0)⟩,
    ⟨.always, (some 97), .move (.tmp 1)⟩,
    ⟨.always, (some 98), .nilCheck (.tmp 96)⟩,
    ⟨.always, (some 99), .fieldAddr 56 (.tmp 98) 1⟩,
    ⟨.always, (some 100), .indexAddr 49 (.tmp 99) (.tmp 97)⟩,
    ⟨.always, none, .store 48 (.tmp 100) (.const (.pointer none))⟩]
noncomputable def S7_21 : SC := .seq S7_19 S7_20
noncomputable def S7_22 : SC := .seq S7_18 S7_21
noncomputable def S7_23 : SC := .cond (.tmp 64) S7_22 .skip
noncomputable def S7_24 : SC := .seq S7_17 S7_23
noncomputable def S7_25 : SC := .ops [
    ⟨.always, (some 4), .assign (.const (.bool true))⟩]
noncomputable def S7_26 : SC := .seq S7_25 .ret
noncomputable def S7_27 : SC := .seq S7_24 S7_26
noncomputable def S7_28 : SC := .seq S7_16 S7_27
noncomputable def S7_29 : SC := .seq S7_12 S7_28
noncomputable def S7_30 : SC := .seq S7_8 S7_29
noncomputable def S7_31 : SC := .seq S7_7 S7_30
noncomputable def S7_32 : SC := .seq S7_6 S7_31
noncomputable def S7_33 : SC := .seq S7_5 S7_32
noncomputable def S7_34 : SC := .seq S7_0 S7_33
noncomputable def S7 : SC := S7_34
theorem s7 : Tryz.f7.body.map (slim E0 hm0 7 101) = some S7 := by kernel_rfl
theorem n7 : 2 + (Tryz.f7.ntmps - 2) = 101 := by kernel_rfl
theorem r7 : Tryz.f7.results.toList = [.tmp 4] := by kernel_rfl
theorem fn7 : E0.fns 7 = some Tryz.f7 := Tryz.func7

/-! (*carrack/world.World).Kill -/
noncomputable def S8_0 : SC := .ops [
    ⟨.always, (some 4), .assign (.const (iv 0))⟩]
noncomputable def S8_1 : SC := .ops [
    ⟨.always, (some 8), .move (.tmp 0)⟩,
    ⟨.always, (some 9), .move (.tmp 1)⟩,
    ⟨.always, (some 10), .call ⟨.value (.func 19), #[(.tmp 8), (.tmp 9)], #[24, 3]⟩⟩,
    ⟨.always, (some 11), .unOp .not 4 (.tmp 10)⟩,
    ⟨.always, (some 7), .assign (.tmp 11)⟩]
noncomputable def S8_2 : SC := .ops [
    ⟨.always, (some 4), .assign (.const (iv 1))⟩]
noncomputable def S8_3 : SC := .seq S8_2 .ret
noncomputable def S8_4 : SC := .ops [
    ⟨.always, (some 13), .move (.tmp 0)⟩,
    ⟨.always, (some 14), .move (.tmp 1)⟩,
    ⟨.always, (some 15), .call ⟨.value (.func 20), #[(.tmp 13), (.tmp 14)], #[24, 3]⟩⟩,
    ⟨.always, (some 16), .binOp .eql 22 (.tmp 15) (.const (u 2)) 22⟩,
    ⟨.always, (some 12), .assign (.tmp 16)⟩]
noncomputable def S8_5 : SC := .ops [
    ⟨.always, (some 4), .assign (.const (iv 13))⟩]
noncomputable def S8_6 : SC := .seq S8_5 .ret
noncomputable def S8_7 : SC := .ops [
    ⟨.always, (some 18), .move (.tmp 0)⟩,
    ⟨.always, (some 19), .move (.tmp 1)⟩,
    ⟨.always, (some 20), .call ⟨.value (.func 20), #[(.tmp 18), (.tmp 19)], #[24, 3]⟩⟩,
    ⟨.always, (some 21), .binOp .neq 22 (.tmp 20) (.const (u 1)) 22⟩,
    ⟨.always, (some 22), .move (.tmp 21)⟩,
    ⟨(.on 22 true), (some 23), .move (.tmp 0)⟩,
    ⟨(.on 22 true), (some 24), .move (.tmp 1)⟩,
    ⟨(.on 22 true), (some 25), .nilCheck (.tmp 23)⟩,
    ⟨(.on 22 true), (some 26), .fieldAddr 56 (.tmp 25) 1⟩,
    ⟨(.on 22 true), (some 27), .indexAddr 49 (.tmp 26) (.tmp 24)⟩,
    ⟨(.on 22 true), (some 28), .load 48 (.tmp 27)⟩,
    ⟨(.on 22 true), (some 29), .binOp .eql 48 (.tmp 28) (.const (.pointer none)) 48⟩,
    ⟨.always, (some 30), .pick (.tmp 22) (.tmp 29) (.const (.bool false))⟩,
    ⟨.always, (some 17), .assign (.tmp 30)⟩]
noncomputable def S8_8 : SC := .ops [
    ⟨.always, (some 4), .assign (.const (iv 10))⟩]
noncomputable def S8_9 : SC := .seq S8_8 .ret
noncomputable def S8_10 : SC := .cond (.tmp 17) S8_9 .skip
noncomputable def S8_11 : SC := .seq S8_7 S8_10
noncomputable def S8_12 : SC := .cond (.tmp 12) S8_6 S8_11
noncomputable def S8_13 : SC := .seq S8_4 S8_12
noncomputable def S8_14 : SC := .cond (.tmp 7) S8_3 S8_13
noncomputable def S8_15 : SC := .seq S8_1 S8_14
noncomputable def S8_16 : SC := .blk 0 S8_15
noncomputable def S8_17 : SC := .ops [
    ⟨.always, (some 31), .move (.tmp 0)⟩,
    ⟨.always, (some 32), .nilCheck (.tmp 31)⟩,
    ⟨.always, (some 33), .fieldAddr 56 (.tmp 32) 0⟩,
    ⟨.always, (some 34), .load 37 (.tmp 33)⟩,
    ⟨.always, (some 35), .call ⟨.value (.func 25), #[(.tmp 34)], #[37]⟩⟩,
    ⟨.always, (some 5), .assign (.tmp 35)⟩]
noncomputable def S8_18 : SC := .ops [
    ⟨.always, (some 36), .move (.tmp 5)⟩,
    ⟨.always, (some 37), .move (.tmp 1)⟩,
    ⟨.always, (some 38), .call ⟨.value (.func 26), #[(.tmp 36), (.tmp 37)], #[70, 3]⟩⟩]
noncomputable def S8_19 : SC := .ops [
    ⟨.always, (some 39), .move (.tmp 5)⟩,
    ⟨.always, (some 40), .call ⟨.value (.func 27), #[(.tmp 39)], #[70]⟩⟩]
noncomputable def S8_20 : SC := .ops [
    ⟨.always, (some 41), .move (.tmp 0)⟩,
    ⟨.always, (some 42), .move (.tmp 1)⟩,
    ⟨.always, (some 43), .nilCheck (.tmp 41)⟩,
    ⟨.always, (some 44), .fieldAddr 56 (.tmp 43) 1⟩,
    ⟨.always, (some 45), .indexAddr 49 (.tmp 44) (.tmp 42)⟩,
    ⟨.always, (some 46), .load 48 (.tmp 45)⟩,
    ⟨.always, (some 6), .assign (.tmp 46)⟩]
noncomputable def S8_21 : SC := .ops [
    ⟨.always, (some 47), .move (.tmp 6)⟩,
    ⟨.always, (some 48), .binOp .neq 48 (.tmp 47) (.const (.pointer none)) 48⟩]
noncomputable def S8_22 : SC := .draw [] [
    (0, ⟨.always, (some 49), .move (.tmp 0)⟩),
    (0, ⟨.always, (some 50), .nilCheck (.tmp 49)⟩),
    (0, ⟨.always, (some 51), .fieldAddr 56 (.tmp 50) 2⟩),
    (2, ⟨.always, (some 52), .load 32 (.tmp 51)⟩),
    (0, ⟨.always, (some 53), .move (.tmp 6)⟩),
    (0, ⟨.always, (some 54), .nilCheck (.tmp 53)⟩),
    (0, ⟨.always, (some 55), .fieldAddr 61 (.tmp 54) 1⟩),
    (2, ⟨.always, (some 56), .load 3 (.tmp 55)⟩),
    (0, ⟨.always, (some 57), .indexAddr 32 (.tmp 52) (.tmp 56)⟩),
    (0, ⟨.always, (some 58), .fieldAddr 45 (.tmp 57) 5⟩),
    (4, ⟨.always, none, .store 4 (.tmp 58) (.const (.bool true))⟩)]
noncomputable def S8_23 : SC := .cond (.tmp 48) S8_22 .skip
noncomputable def S8_24 : SC := .seq S8_21 S8_23
noncomputable def S8_25 : SC := .seq S8_20 S8_24
noncomputable def S8_26 : SC := .ops [
    ⟨.always, (some 59), .move (.tmp 0)⟩,
    ⟨.always, (some 60), .move (.tmp 1)⟩,
    ⟨.always, (some 61), .nilCheck (.tmp 59)⟩,
    ⟨.always, (some 62), .fieldAddr 56 (.tmp 61) 1⟩,
    ⟨.always, (some 63), .indexAddr 49 (.tmp 62) (.tmp 60)⟩,
    ⟨.always, none, .store 48 (.tmp 63) (.const (.pointer none))⟩]
noncomputable def S8_27 : SC := .ops [
    ⟨.always, (some 64), .move (.tmp 0)⟩,
    ⟨.always, (some 65), .nilCheck (.tmp 64)⟩,
    ⟨.always, (some 66), .fieldAddr 56 (.tmp 65) 4⟩,
    ⟨.always, (some 67), .call ⟨.value (.func 22), #[(.tmp 66), (.const (iv 1))], #[54, 2]⟩⟩]
noncomputable def S8_28 : SC := .ops [
    ⟨.always, (some 4), .assign (.const (iv 0))⟩]
noncomputable def S8_29 : SC := .seq S8_28 .ret
noncomputable def S8_30 : SC := .seq S8_27 S8_29
noncomputable def S8_31 : SC := .seq S8_26 S8_30
noncomputable def S8_32 : SC := .seq S8_25 S8_31
noncomputable def S8_33 : SC := .seq S8_19 S8_32
noncomputable def S8_34 : SC := .seq S8_18 S8_33
noncomputable def S8_35 : SC := .seq S8_17 S8_34
noncomputable def S8_36 : SC := .seq S8_16 S8_35
noncomputable def S8_37 : SC := .seq S8_0 S8_36
noncomputable def S8 : SC := S8_37
theorem s8 : Tryz.f8.body.map (slim E0 hm0 8 68) = some S8 := by kernel_rfl
theorem n8 : 2 + (Tryz.f8.ntmps - 2) = 68 := by kernel_rfl
theorem r8 : Tryz.f8.results.toList = [.tmp 4] := by kernel_rfl
theorem fn8 : E0.fns 8 = some Tryz.f8 := Tryz.func8

/-! (*carrack/world.World).Records -/
noncomputable def S9_0 : SC := .ops [
    ⟨.always, (some 2), .assign (.const (.slice none 0 0))⟩]
noncomputable def S9_1 : SC := .ops [
    ⟨.always, (some 3), .move (.tmp 0)⟩,
    ⟨.always, (some 4), .binOp .eql 24 (.tmp 3) (.const (.pointer none)) 24⟩]
noncomputable def S9_2 : SC := .ops [
    ⟨.always, (some 2), .assign (.const (.slice none 0 0))⟩]
noncomputable def S9_3 : SC := .seq S9_2 .ret
noncomputable def S9_4 : SC := .cond (.tmp 4) S9_3 .skip
noncomputable def S9_5 : SC := .seq S9_1 S9_4
noncomputable def S9_6 : SC := .ops [
    ⟨.always, (some 5), .move (.tmp 0)⟩,
    ⟨.always, (some 6), .nilCheck (.tmp 5)⟩,
    ⟨.always, (some 7), .fieldAddr 56 (.tmp 6) 2⟩,
    ⟨.always, (some 8), .load 32 (.tmp 7)⟩,
    ⟨.always, (some 9), .call ⟨.value (.func 28), #[(.tmp 8)], #[32]⟩⟩,
    ⟨.always, (some 2), .assign (.tmp 9)⟩]
noncomputable def S9_7 : SC := .seq S9_6 .ret
noncomputable def S9_8 : SC := .seq S9_5 S9_7
noncomputable def S9_9 : SC := .seq S9_0 S9_8
noncomputable def S9 : SC := S9_9
theorem s9 : Tryz.f9.body.map (slim E0 hm0 9 10) = some S9 := by kernel_rfl
theorem n9 : 1 + (Tryz.f9.ntmps - 1) = 10 := by kernel_rfl
theorem r9 : Tryz.f9.results.toList = [.tmp 2] := by kernel_rfl
theorem fn9 : E0.fns 9 = some Tryz.f9 := Tryz.func9

/-! (*carrack/world.World).Events -/
noncomputable def S10_0 : SC := .ops [
    ⟨.always, (some 2), .assign (.const (.slice none 0 0))⟩]
noncomputable def S10_1 : SC := .ops [
    ⟨.always, (some 4), .move (.tmp 0)⟩,
    ⟨.always, (some 5), .binOp .eql 24 (.tmp 4) (.const (.pointer none)) 24⟩]
noncomputable def S10_2 : SC := .ops [
    ⟨.always, (some 2), .assign (.const (.slice none 0 0))⟩]
noncomputable def S10_3 : SC := .seq S10_2 .ret
noncomputable def S10_4 : SC := .cond (.tmp 5) S10_3 .skip
noncomputable def S10_5 : SC := .seq S10_1 S10_4
noncomputable def S10_6 : SC := .ops [
    ⟨.always, (some 6), .move (.tmp 0)⟩,
    ⟨.always, (some 7), .nilCheck (.tmp 6)⟩,
    ⟨.always, (some 8), .fieldAddr 56 (.tmp 7) 3⟩,
    ⟨.always, (some 9), .load 34 (.tmp 8)⟩,
    ⟨.always, (some 10), .call ⟨.builtin .len, #[(.tmp 9)], #[34]⟩⟩,
    ⟨.always, (some 11), .makeSlice 34 (.tmp 10) (.tmp 10)⟩,
    ⟨.always, (some 3), .assign (.tmp 11)⟩]
noncomputable def S10_7 : SC := .ops [
    ⟨.always, (some 12), .move (.tmp 3)⟩,
    ⟨.always, (some 13), .move (.tmp 0)⟩,
    ⟨.always, (some 14), .nilCheck (.tmp 13)⟩,
    ⟨.always, (some 15), .fieldAddr 56 (.tmp 14) 3⟩,
    ⟨.always, (some 16), .load 34 (.tmp 15)⟩,
    ⟨.always, (some 17), .call ⟨.builtin .copy, #[(.tmp 12), (.tmp 16)], #[34, 34]⟩⟩]
noncomputable def S10_8 : SC := .ops [
    ⟨.always, (some 18), .move (.tmp 3)⟩,
    ⟨.always, (some 2), .assign (.tmp 18)⟩]
noncomputable def S10_9 : SC := .seq S10_8 .ret
noncomputable def S10_10 : SC := .seq S10_7 S10_9
noncomputable def S10_11 : SC := .seq S10_6 S10_10
noncomputable def S10_12 : SC := .seq S10_5 S10_11
noncomputable def S10_13 : SC := .seq S10_0 S10_12
noncomputable def S10 : SC := S10_13
theorem s10 : Tryz.f10.body.map (slim E0 hm0 10 19) = some S10 := by kernel_rfl
theorem n10 : 1 + (Tryz.f10.ntmps - 1) = 19 := by kernel_rfl
theorem r10 : Tryz.f10.results.toList = [.tmp 2] := by kernel_rfl
theorem fn10 : E0.fns 10 = some Tryz.f10 := Tryz.func10

/-! (*carrack/world.World).Busy -/
noncomputable def S11_0 : SC := .ops [
    ⟨.always, (some 4), .assign (.const (.bool false))⟩]
noncomputable def S11_1 : SC := .ops [
    ⟨.always, (some 5), .move (.tmp 0)⟩,
    ⟨.always, (some 6), .move (.tmp 1)⟩,
    ⟨.always, (some 7), .call ⟨.value (.func 19), #[(.tmp 5), (.tmp 6)], #[24, 3]⟩⟩,
    ⟨.always, (some 8), .move (.tmp 7)⟩,
    ⟨(.on 8 true), (some 9), .move (.tmp 0)⟩,
    ⟨(.on 8 true), (some 10), .move (.tmp 1)⟩,
    ⟨(.on 8 true), (some 11), .nilCheck (.tmp 9)⟩,
    ⟨(.on 8 true), (some 12), .fieldAddr 56 (.tmp 11) 1⟩,
    ⟨(.on 8 true), (some 13), .indexAddr 49 (.tmp 12) (.tmp 10)⟩,
    ⟨(.on 8 true), (some 14), .load 48 (.tmp 13)⟩,
    ⟨(.on 8 true), (some 15), .binOp .neq 48 (.tmp 14) (.const (.pointer none)) 48⟩,
    ⟨.always, (some 16), .pick (.tmp 8) (.tmp 15) (.const (.bool false))⟩,
    ⟨.always, (some 4), .assign (.tmp 16)⟩]
noncomputable def S11_2 : SC := .seq S11_1 .ret
noncomputable def S11_3 : SC := .seq S11_0 S11_2
noncomputable def S11 : SC := S11_3
theorem s11 : Tryz.f11.body.map (slim E0 hm0 11 17) = some S11 := by kernel_rfl
theorem n11 : 2 + (Tryz.f11.ntmps - 2) = 17 := by kernel_rfl
theorem r11 : Tryz.f11.results.toList = [.tmp 4] := by kernel_rfl
theorem fn11 : E0.fns 11 = some Tryz.f11 := Tryz.func11

/-! (*carrack/world.World).Quiet -/
noncomputable def S12_0 : SC := .ops [
    ⟨.always, (some 2), .assign (.const (.bool false))⟩]
noncomputable def S12_1 : SC := .ops [
    ⟨.always, (some 6), .move (.tmp 0)⟩,
    ⟨.always, (some 7), .binOp .eql 24 (.tmp 6) (.const (.pointer none)) 24⟩]
noncomputable def S12_2 : SC := .ops [
    ⟨.always, (some 2), .assign (.const (.bool false))⟩]
noncomputable def S12_3 : SC := .seq S12_2 .ret
noncomputable def S12_4 : SC := .cond (.tmp 7) S12_3 .skip
noncomputable def S12_5 : SC := .seq S12_1 S12_4
noncomputable def S12_6 : SC := .ops [
    ⟨.always, (some 8), .move (.tmp 0)⟩,
    ⟨.always, (some 9), .nilCheck (.tmp 8)⟩,
    ⟨.always, (some 10), .fieldAddr 56 (.tmp 9) 0⟩,
    ⟨.always, (some 11), .load 37 (.tmp 10)⟩,
    ⟨.always, (some 12), .call ⟨.value (.func 25), #[(.tmp 11)], #[37]⟩⟩,
    ⟨.always, (some 3), .assign (.tmp 12)⟩]
noncomputable def S12_7 : SC := .ops [
    ⟨.always, (some 14), .move (.tmp 3)⟩,
    ⟨.always, (some 15), .call ⟨.value (.func 29), #[(.tmp 14)], #[70]⟩⟩,
    ⟨.always, (some 13), .move (.tmp 15)⟩,
    ⟨.always, (some 16), .extract (.tmp 13) 0⟩,
    ⟨.always, (some 17), .extract (.tmp 13) 1⟩,
    ⟨.always, (some 4), .assign (.tmp 16)⟩,
    ⟨.always, (some 5), .assign (.tmp 17)⟩]
noncomputable def S12_8 : SC := .ops [
    ⟨.always, (some 18), .move (.tmp 5)⟩,
    ⟨.always, (some 19), .unOp .not 4 (.tmp 18)⟩,
    ⟨.always, (some 20), .move (.tmp 19)⟩,
    ⟨(.on 20 true), (some 21), .move (.tmp 3)⟩,
    ⟨(.on 20 true), (some 22), .call ⟨.value (.func 30), #[(.tmp 21), (.const (u 2))], #[70, 22]⟩⟩,
    ⟨(.on 20 true), (some 23), .call ⟨.builtin .len, #[(.tmp 22)], #[76]⟩⟩,
    ⟨(.on 20 true), (some 24), .binOp .eql 3 (.tmp 23) (.const (iv 0)) 3⟩,
    ⟨.always, (some 25), .pick (.tmp 20) (.tmp 24) (.const (.bool false))⟩,
    ⟨.always, (some 2), .assign (.tmp 25)⟩]
noncomputable def S12_9 : SC := .seq S12_8 .ret
noncomputable def S12_10 : SC := .seq S12_7 S12_9
noncomputable def S12_11 : SC := .seq S12_6 S12_10
noncomputable def S12_12 : SC := .seq S12_5 S12_11
noncomputable def S12_13 : SC := .seq S12_0 S12_12
noncomputable def S12 : SC := S12_13
theorem s12 : Tryz.f12.body.map (slim E0 hm0 12 26) = some S12 := by kernel_rfl
theorem n12 : 1 + (Tryz.f12.ntmps - 1) = 26 := by kernel_rfl
theorem r12 : Tryz.f12.results.toList = [.tmp 2] := by kernel_rfl
theorem fn12 : E0.fns 12 = some Tryz.f12 := Tryz.func12

/-! (*carrack/world.World).Clock -/
noncomputable def S13_0 : SC := .ops [
    ⟨.always, (some 2), .assign (.const (iv 0))⟩]
noncomputable def S13_1 : SC := .ops [
    ⟨.always, (some 3), .move (.tmp 0)⟩,
    ⟨.always, (some 4), .binOp .eql 24 (.tmp 3) (.const (.pointer none)) 24⟩]
noncomputable def S13_2 : SC := .ops [
    ⟨.always, (some 2), .assign (.const (iv 0))⟩]
noncomputable def S13_3 : SC := .seq S13_2 .ret
noncomputable def S13_4 : SC := .cond (.tmp 4) S13_3 .skip
noncomputable def S13_5 : SC := .seq S13_1 S13_4
noncomputable def S13_6 : SC := .ops [
    ⟨.always, (some 5), .move (.tmp 0)⟩,
    ⟨.always, (some 6), .nilCheck (.tmp 5)⟩,
    ⟨.always, (some 7), .fieldAddr 56 (.tmp 6) 4⟩,
    ⟨.always, (some 8), .call ⟨.value (.func 31), #[(.tmp 7)], #[54]⟩⟩,
    ⟨.always, (some 2), .assign (.tmp 8)⟩]
noncomputable def S13_7 : SC := .seq S13_6 .ret
noncomputable def S13_8 : SC := .seq S13_5 S13_7
noncomputable def S13_9 : SC := .seq S13_0 S13_8
noncomputable def S13 : SC := S13_9
theorem s13 : Tryz.f13.body.map (slim E0 hm0 13 9) = some S13 := by kernel_rfl
theorem n13 : 1 + (Tryz.f13.ntmps - 1) = 9 := by kernel_rfl
theorem r13 : Tryz.f13.results.toList = [.tmp 2] := by kernel_rfl
theorem fn13 : E0.fns 13 = some Tryz.f13 := Tryz.func13

/-! (*carrack/world.World).Seg -/
noncomputable def S14_0 : SC := .ops [
    ⟨.always, (some 2), .assign (.const (.pointer none))⟩]
noncomputable def S14_1 : SC := .ops [
    ⟨.always, (some 3), .move (.tmp 0)⟩,
    ⟨.always, (some 4), .binOp .eql 24 (.tmp 3) (.const (.pointer none)) 24⟩]
noncomputable def S14_2 : SC := .ops [
    ⟨.always, (some 2), .assign (.const (.pointer none))⟩]
noncomputable def S14_3 : SC := .seq S14_2 .ret
noncomputable def S14_4 : SC := .cond (.tmp 4) S14_3 .skip
noncomputable def S14_5 : SC := .seq S14_1 S14_4
noncomputable def S14_6 : SC := .ops [
    ⟨.always, (some 5), .move (.tmp 0)⟩,
    ⟨.always, (some 6), .nilCheck (.tmp 5)⟩,
    ⟨.always, (some 7), .fieldAddr 56 (.tmp 6) 0⟩,
    ⟨.always, (some 8), .load 37 (.tmp 7)⟩,
    ⟨.always, (some 9), .call ⟨.value (.func 32), #[(.tmp 8)], #[37]⟩⟩,
    ⟨.always, (some 2), .assign (.tmp 9)⟩]
noncomputable def S14_7 : SC := .seq S14_6 .ret
noncomputable def S14_8 : SC := .seq S14_5 S14_7
noncomputable def S14_9 : SC := .seq S14_0 S14_8
noncomputable def S14 : SC := S14_9
theorem s14 : Tryz.f14.body.map (slim E0 hm0 14 10) = some S14 := by kernel_rfl
theorem n14 : 1 + (Tryz.f14.ntmps - 1) = 10 := by kernel_rfl
theorem r14 : Tryz.f14.results.toList = [.tmp 2] := by kernel_rfl
theorem fn14 : E0.fns 14 = some Tryz.f14 := Tryz.func14

/-! carrack/seg.New -/
noncomputable def S17_0 : SC := .ops [
    ⟨.always, (some 2), .assign (.const (.pointer none))⟩]
noncomputable def S17_1 : SC := .ops [
    ⟨.always, (some 3), .move (.tmp 0)⟩,
    ⟨.always, (some 4), .binOp .eql 22 (.tmp 3) (.const (u 0)) 22⟩,
    ⟨.always, (some 5), .move (.tmp 4)⟩,
    ⟨(.on 5 false), (some 6), .move (.tmp 0)⟩,
    ⟨(.on 5 false), (some 7), .binOp .rem 22 (.tmp 6) (.const (u 8)) 22⟩,
    ⟨(.on 5 false), (some 8), .binOp .neq 22 (.tmp 7) (.const (u 0)) 22⟩,
    ⟨.always, (some 9), .pick (.tmp 5) (.const (.bool true)) (.tmp 8)⟩,
    ⟨.always, (some 10), .move (.tmp 9)⟩,
    ⟨(.on 10 false), (some 11), .move (.tmp 0)⟩,
    ⟨(.on 10 false), (some 12), .binOp .gtr 22 (.tmp 11) (.const (u 1048576)) 22⟩,
    ⟨.always, (some 13), .pick (.tmp 10) (.const (.bool true)) (.tmp 12)⟩]
noncomputable def S17_2 : SC := .ops [
    ⟨.always, (some 2), .assign (.const (.pointer none))⟩]
noncomputable def S17_3 : SC := .seq S17_2 .ret
noncomputable def S17_4 : SC := .cond (.tmp 13) S17_3 .skip
noncomputable def S17_5 : SC := .seq S17_1 S17_4
noncomputable def S17_6 : SC := .ops [
    ⟨.always, (some 14), .move (.tmp 0)⟩,
    ⟨.always, (some 15), .makeSlice 86 (.tmp 14) (.tmp 14)⟩,
    ⟨.always, (some 16), .build 88 #[(0, (.tmp 15))]⟩,
    ⟨.always, (some 17), .box 88 (.tmp 16)⟩,
    ⟨.always, (some 2), .assign (.tmp 17)⟩]
noncomputable def S17_7 : SC := .seq S17_6 .ret
noncomputable def S17_8 : SC := .seq S17_5 S17_7
noncomputable def S17_9 : SC := .seq S17_0 S17_8
noncomputable def S17 : SC := S17_9
theorem s17 : Tryz.f17.body.map (slim E0 hm0 17 18) = some S17 := by kernel_rfl
theorem n17 : 1 + (Tryz.f17.ntmps - 1) = 18 := by kernel_rfl
theorem r17 : Tryz.f17.results.toList = [.tmp 2] := by kernel_rfl
theorem fn17 : E0.fns 17 = some Tryz.f17 := Tryz.func17

/-! carrack/head.Format -/
noncomputable def S18_0 : SC := .ops [
    ⟨.always, (some 2), .box 37 (.tmp 0)⟩,
    ⟨.always, (some 4), .assign (.const (iv 0))⟩]
noncomputable def S18_1 : SC := .ops [
    ⟨.always, (some 8), .load 37 (.tmp 2)⟩,
    ⟨.always, (some 9), .binOp .eql 37 (.tmp 8) (.const (.pointer none)) 37⟩,
    ⟨.always, (some 7), .assign (.tmp 9)⟩]
noncomputable def S18_2 : SC := .ops [
    ⟨.always, (some 4), .assign (.const (iv 1))⟩]
noncomputable def S18_3 : SC := .seq S18_2 .ret
noncomputable def S18_4 : SC := .ops [
    ⟨.always, (some 11), .move (.tmp 1)⟩,
    ⟨.always, (some 12), .load 37 (.tmp 2)⟩,
    ⟨.always, (some 13), .call ⟨.value (.func 36), #[(.tmp 12)], #[37]⟩⟩,
    ⟨.always, (some 14), .call ⟨.value (.func 35), #[(.tmp 11), (.tmp 13)], #[22, 22]⟩⟩,
    ⟨.always, (some 15), .unOp .not 4 (.tmp 14)⟩,
    ⟨.always, (some 10), .assign (.tmp 15)⟩]
noncomputable def S18_5 : SC := .ops [
    ⟨.always, (some 4), .assign (.const (iv 2))⟩]
noncomputable def S18_6 : SC := .seq S18_5 .ret
noncomputable def S18_7 : SC := .cond (.tmp 10) S18_6 .skip
noncomputable def S18_8 : SC := .seq S18_4 S18_7
noncomputable def S18_9 : SC := .cond (.tmp 7) S18_3 S18_8
noncomputable def S18_10 : SC := .seq S18_1 S18_9
noncomputable def S18_11 : SC := .blk 0 S18_10
noncomputable def S18_12 : SC := .ops [
    ⟨.always, (some 5), .assign (.const (u 0))⟩]
noncomputable def S18_13 : SC := .ops [
    ⟨.always, (some 16), .move (.tmp 5)⟩,
    ⟨.always, (some 17), .load 37 (.tmp 2)⟩,
    ⟨.always, (some 18), .call ⟨.value (.func 36), #[(.tmp 17)], #[37]⟩⟩,
    ⟨.always, (some 19), .binOp .lss 22 (.tmp 16) (.tmp 18) 22⟩]
noncomputable def S18_14 : SC := .cond (.tmp 19) .skip (.exit 1)
noncomputable def S18_15 : SC := .seq S18_13 S18_14
noncomputable def S18_16 : SC := .ops [
    ⟨.always, (some 22), .load 37 (.tmp 2)⟩,
    ⟨.always, (some 23), .move (.tmp 5)⟩,
    ⟨.always, (some 24), .call ⟨.value (.func 37), #[(.tmp 22), (.tmp 23), (.const (u 0))], #[37, 22, 22]⟩⟩]
noncomputable def S18_17 : SC := .blk 2 S18_16
noncomputable def S18_18 : SC := .ops [
    ⟨.always, (some 20), .move (.tmp 5)⟩,
    ⟨.always, (some 21), .binOp .add 22 (.tmp 20) (.const (u 8)) 22⟩,
    ⟨.always, (some 5), .assign (.tmp 21)⟩]
noncomputable def S18_19 : SC := .seq S18_17 S18_18
noncomputable def S18_20 : SC := .seq S18_15 S18_19
noncomputable def S18_21 : SC := .loop S18_20
noncomputable def S18_22 : SC := .blk 1 S18_21
noncomputable def S18_23 : SC := .seq S18_12 S18_22
noncomputable def S18_24 : SC := .ops [
    ⟨.always, (some 25), .makeFunc (.func 38) #[] #[(.tmp 2)]⟩,
    ⟨.always, (some 6), .assign (.tmp 25)⟩]
noncomputable def S18_25 : SC := .ops [
    ⟨.always, (some 26), .move (.tmp 6)⟩,
    ⟨.always, (some 27), .call ⟨.value (.tmp 26), #[(.const (u 0)), (.const (u 7161130718081542961))], #[22, 22]⟩⟩]
noncomputable def S18_26 : SC := .ops [
    ⟨.always, (some 28), .move (.tmp 6)⟩,
    ⟨.always, (some 29), .call ⟨.value (.tmp 28), #[(.const (u 8)), (.const (u 1))], #[22, 22]⟩⟩]
noncomputable def S18_27 : SC := .ops [
    ⟨.always, (some 30), .move (.tmp 6)⟩,
    ⟨.always, (some 31), .move (.tmp 1)⟩,
    ⟨.always, (some 32), .call ⟨.value (.tmp 30), #[(.const (u 16)), (.tmp 31)], #[22, 22]⟩⟩]
noncomputable def S18_28 : SC := .ops [
    ⟨.always, (some 33), .move (.tmp 6)⟩,
    ⟨.always, (some 34), .call ⟨.value (.tmp 33), #[(.const (u 32)), (.const (u 3776))], #[22, 22]⟩⟩]
noncomputable def S18_29 : SC := .ops [
    ⟨.always, (some 35), .move (.tmp 6)⟩,
    ⟨.always, (some 36), .move (.tmp 1)⟩,
    ⟨.always, (some 37), .call ⟨.value (.func 39), #[(.tmp 36)], #[22]⟩⟩,
    ⟨.always, (some 38), .call ⟨.value (.tmp 35), #[(.const (u 40)), (.tmp 37)], #[22, 22]⟩⟩]
noncomputable def S18_30 : SC := .ops [
    ⟨.always, (some 39), .move (.tmp 6)⟩,
    ⟨.always, (some 40), .move (.tmp 1)⟩,
    ⟨.always, (some 41), .binOp .sub 22 (.tmp 40) (.const (u 3776)) 22⟩,
    ⟨.always, (some 42), .call ⟨.value (.tmp 39), #[(.const (u 3776)), (.tmp 41)], #[22, 22]⟩⟩]
noncomputable def S18_31 : SC := .ops [
    ⟨.always, (some 43), .move (.tmp 6)⟩,
    ⟨.always, (some 44), .move (.tmp 1)⟩,
    ⟨.always, (some 45), .binOp .sub 22 (.tmp 44) (.const (u 8)) 22⟩,
    ⟨.always, (some 46), .move (.tmp 1)⟩,
    ⟨.always, (some 47), .binOp .sub 22 (.tmp 46) (.const (u 3776)) 22⟩,
    ⟨.always, (some 48), .call ⟨.value (.tmp 43), #[(.tmp 45), (.tmp 47)], #[22, 22]⟩⟩]
noncomputable def S18_32 : SC := .ops [
    ⟨.always, (some 4), .assign (.const (iv 0))⟩]
noncomputable def S18_33 : SC := .seq S18_32 .ret
noncomputable def S18_34 : SC := .seq S18_31 S18_33
noncomputable def S18_35 : SC := .seq S18_30 S18_34
noncomputable def S18_36 : SC := .seq S18_29 S18_35
noncomputable def S18_37 : SC := .seq S18_28 S18_36
noncomputable def S18_38 : SC := .seq S18_27 S18_37
noncomputable def S18_39 : SC := .seq S18_26 S18_38
noncomputable def S18_40 : SC := .seq S18_25 S18_39
noncomputable def S18_41 : SC := .seq S18_24 S18_40
noncomputable def S18_42 : SC := .seq S18_23 S18_41
noncomputable def S18_43 : SC := .seq S18_11 S18_42
noncomputable def S18_44 : SC := .seq S18_0 S18_43
noncomputable def S18 : SC := S18_44
theorem s18 : Tryz.f18.body.map (slim E0 hm0 18 49) = some S18 := by kernel_rfl
theorem n18 : 2 + (Tryz.f18.ntmps - 2) = 49 := by kernel_rfl
theorem r18 : Tryz.f18.results.toList = [.tmp 4] := by kernel_rfl
theorem fn18 : E0.fns 18 = some Tryz.f18 := Tryz.func18

/-! (*carrack/world.World).there -/
noncomputable def S19_0 : SC := .ops [
    ⟨.always, (some 4), .assign (.const (.bool false))⟩]
noncomputable def S19_1 : SC := .ops [
    ⟨.always, (some 5), .move (.tmp 0)⟩,
    ⟨.always, (some 6), .binOp .neq 24 (.tmp 5) (.const (.pointer none)) 24⟩,
    ⟨.always, (some 7), .move (.tmp 6)⟩,
    ⟨(.on 7 true), (some 8), .move (.tmp 1)⟩,
    ⟨(.on 7 true), (some 9), .binOp .geq 3 (.tmp 8) (.const (iv 0)) 3⟩,
    ⟨.always, (some 10), .pick (.tmp 7) (.tmp 9) (.const (.bool false))⟩,
    ⟨.always, (some 11), .move (.tmp 10)⟩,
    ⟨(.on 11 true), (some 12), .move (.tmp 1)⟩,
    ⟨(.on 11 true), (some 13), .binOp .lss 3 (.tmp 12) (.const (iv 8)) 3⟩,
    ⟨.always, (some 14), .pick (.tmp 11) (.tmp 13) (.const (.bool false))⟩,
    ⟨.always, (some 4), .assign (.tmp 14)⟩]
noncomputable def S19_2 : SC := .seq S19_1 .ret
noncomputable def S19_3 : SC := .seq S19_0 S19_2
noncomputable def S19 : SC := S19_3
theorem s19 : Tryz.f19.body.map (slim E0 hm0 19 15) = some S19 := by kernel_rfl
theorem n19 : 2 + (Tryz.f19.ntmps - 2) = 15 := by kernel_rfl
theorem r19 : Tryz.f19.results.toList = [.tmp 4] := by kernel_rfl
theorem fn19 : E0.fns 19 = some Tryz.f19 := Tryz.func19

/-! carrack/tx.New -/
noncomputable def S25_0 : SC := .ops [
    ⟨.always, (some 2), .assign (.const (.pointer none))⟩]
noncomputable def S25_1 : SC := .ops [
    ⟨.always, (some 3), .move (.tmp 0)⟩,
    ⟨.always, (some 4), .binOp .eql 37 (.tmp 3) (.const (.pointer none)) 37⟩]
noncomputable def S25_2 : SC := .ops [
    ⟨.always, (some 2), .assign (.const (.pointer none))⟩]
noncomputable def S25_3 : SC := .seq S25_2 .ret
noncomputable def S25_4 : SC := .cond (.tmp 4) S25_3 .skip
noncomputable def S25_5 : SC := .seq S25_1 S25_4
noncomputable def S25_6 : SC := .ops [
    ⟨.always, (some 5), .move (.tmp 0)⟩,
    ⟨.always, (some 6), .makeMap 117 none⟩,
    ⟨.always, (some 7), .build 120 #[(0, (.tmp 5)), (1, (.tmp 6))]⟩,
    ⟨.always, (some 8), .box 120 (.tmp 7)⟩,
    ⟨.always, (some 2), .assign (.tmp 8)⟩]
noncomputable def S25_7 : SC := .seq S25_6 .ret
noncomputable def S25_8 : SC := .seq S25_5 S25_7
noncomputable def S25_9 : SC := .seq S25_0 S25_8
noncomputable def S25 : SC := S25_9
theorem s25 : Tryz.f25.body.map (slim E0 hm0 25 9) = some S25 := by kernel_rfl
theorem n25 : 1 + (Tryz.f25.ntmps - 1) = 9 := by kernel_rfl
theorem r25 : Tryz.f25.results.toList = [.tmp 2] := by kernel_rfl
theorem fn25 : E0.fns 25 = some Tryz.f25 := Tryz.func25

/-! slices.Clone[[]carrack/world.Record,carrack/world.Record] -/
noncomputable def S28_0 : SC := .ops [
    ⟨.always, (some 2), .assign (.const (.slice none 0 0))⟩]
noncomputable def S28_1 : SC := .ops [
    ⟨.always, (some 3), .move (.tmp 0)⟩,
    ⟨.always, (some 4), .binOp .eql 32 (.tmp 3) (.const (.slice none 0 0)) 32⟩]
noncomputable def S28_2 : SC := .ops [
    ⟨.always, (some 2), .assign (.const (.slice none 0 0))⟩]
noncomputable def S28_3 : SC := .seq S28_2 .ret
noncomputable def S28_4 : SC := .cond (.tmp 4) S28_3 .skip
noncomputable def S28_5 : SC := .seq S28_1 S28_4
noncomputable def S28_6 : SC := .ops [
    ⟨.always, (some 5), .buildSlice 32 0 #[]⟩,
    ⟨.always, (some 6), .move (.tmp 0)⟩,
    ⟨.always, (some 7), .call ⟨.builtin .append, #[(.tmp 5), (.tmp 6)], #[32, 32]⟩⟩,
    ⟨.always, (some 2), .assign (.tmp 7)⟩]
noncomputable def S28_7 : SC := .seq S28_6 .ret
noncomputable def S28_8 : SC := .seq S28_5 S28_7
noncomputable def S28_9 : SC := .seq S28_0 S28_8
noncomputable def S28 : SC := S28_9
theorem s28 : Tryz.f28.body.map (slim E0 hm0 28 8) = some S28 := by kernel_rfl
theorem n28 : 1 + (Tryz.f28.ntmps - 1) = 8 := by kernel_rfl
theorem r28 : Tryz.f28.results.toList = [.tmp 2] := by kernel_rfl
theorem fn28 : E0.fns 28 = some Tryz.f28 := Tryz.func28

/-! carrack/lock.Holder -/
noncomputable def S29_0 : SC := .ops [
    ⟨.always, (some 2), .assign (.const (iv 0))⟩,
    ⟨.always, (some 3), .assign (.const (.bool false))⟩]
noncomputable def S29_1 : SC := .ops [
    ⟨.always, (some 5), .move (.tmp 0)⟩,
    ⟨.always, (some 6), .call ⟨.value (.func 45), #[(.tmp 5), (.const (u 24))], #[70, 22]⟩⟩,
    ⟨.always, (some 4), .assign (.tmp 6)⟩]
noncomputable def S29_2 : SC := .ops [
    ⟨.always, (some 7), .move (.tmp 4)⟩,
    ⟨.always, (some 8), .binOp .lss 22 (.tmp 7) (.const (u 1)) 22⟩,
    ⟨.always, (some 9), .move (.tmp 8)⟩,
    ⟨(.on 9 false), (some 10), .move (.tmp 4)⟩,
    ⟨(.on 9 false), (some 11), .binOp .gtr 22 (.tmp 10) (.const (u 8)) 22⟩,
    ⟨.always, (some 12), .pick (.tmp 9) (.const (.bool true)) (.tmp 11)⟩]
noncomputable def S29_3 : SC := .ops [
    ⟨.always, (some 2), .assign (.const (iv 0))⟩,
    ⟨.always, (some 3), .assign (.const (.bool false))⟩]
noncomputable def S29_4 : SC := .seq S29_3 .ret
noncomputable def S29_5 : SC := .cond (.tmp 12) S29_4 .skip
noncomputable def S29_6 : SC := .seq S29_2 S29_5
noncomputable def S29_7 : SC := .ops [
    ⟨.always, (some 13), .move (.tmp 4)⟩,
    ⟨.always, (some 14), .convert 22 3 (.tmp 13)⟩,
    ⟨.always, (some 15), .binOp .sub 3 (.tmp 14) (.const (iv 1)) 3⟩,
    ⟨.always, (some 2), .assign (.tmp 15)⟩,
    ⟨.always, (some 3), .assign (.const (.bool true))⟩]
noncomputable def S29_8 : SC := .seq S29_7 .ret
noncomputable def S29_9 : SC := .seq S29_6 S29_8
noncomputable def S29_10 : SC := .seq S29_1 S29_9
noncomputable def S29_11 : SC := .seq S29_0 S29_10
noncomputable def S29 : SC := S29_11
theorem s29 : Tryz.f29.body.map (slim E0 hm0 29 16) = some S29 := by kernel_rfl
theorem n29 : 1 + (Tryz.f29.ntmps - 1) = 16 := by kernel_rfl
theorem r29 : Tryz.f29.results.toList = [.tmp 2, .tmp 3] := by kernel_rfl
theorem fn29 : E0.fns 29 = some Tryz.f29 := Tryz.func29

/-! carrack/client.All -/
noncomputable def S30_0 : SC := .ops [
    ⟨.always, (some 3), .box 22 (.tmp 1)⟩,
    ⟨.always, (some 4), .assign (.const (.slice none 0 0))⟩]
noncomputable def S30_1 : SC := .ops [
    ⟨.always, (some 5), .alloc 76⟩]
noncomputable def S30_2 : SC := .ops [
    ⟨.always, (some 8), .move (.tmp 0)⟩,
    ⟨.always, (some 9), .call ⟨.value (.func 46), #[(.tmp 8)], #[70]⟩⟩]
noncomputable def S30_3 : Code := codeAt [1, 1, 0, 1, 0, 0] (bodyOf Tryz.f30)
noncomputable def S30_4 : Code := codeAt [1, 1, 0, 1, 0, 1] (bodyOf Tryz.f30)
noncomputable def S30_5 : SC := .ops [
    ⟨.always, (some 6), .assign (.tmp 10)⟩]
noncomputable def S30_6 : SC := .ops [
    ⟨.always, (some 7), .assign (.tmp 11)⟩]
noncomputable def S30_7 : SC := .seq S30_5 S30_6
noncomputable def S30_8 : SC := .ops [
    ⟨.always, (some 12), .move (.tmp 7)⟩,
    ⟨.always, (some 13), .load 22 (.tmp 3)⟩,
    ⟨.always, (some 14), .binOp .eql 22 (.tmp 12) (.tmp 13) 22⟩]
noncomputable def S30_9 : SC := .ops [
    ⟨.always, (some 15), .load 76 (.tmp 5)⟩,
    ⟨.always, (some 16), .move (.tmp 6)⟩,
    ⟨.always, (some 17), .buildSlice 76 1 #[(0, (.tmp 16))]⟩,
    ⟨.always, (some 18), .call ⟨.builtin .append, #[(.tmp 15), (.tmp 17)], #[76, 76]⟩⟩,
    ⟨.always, none, .store 76 (.tmp 5) (.tmp 18)⟩]
noncomputable def S30_10 : SC := .cond (.tmp 14) S30_9 .skip
noncomputable def S30_11 : SC := .seq S30_8 S30_10
noncomputable def S30_12 : SC := .blk 1 S30_11
noncomputable def S30_13 : SC := .range (.tmp 9) #[10, 11] S30_3 S30_4
noncomputable def S30_14 : SC := .blk 0 S30_13
noncomputable def S30_15 : SC := .seq S30_2 S30_14
noncomputable def S30_16 : SC := .ops [
    ⟨.always, (some 19), .load 76 (.tmp 5)⟩,
    ⟨.always, (some 4), .assign (.tmp 19)⟩]
noncomputable def S30_17 : SC := .seq S30_16 .ret
noncomputable def S30_18 : SC := .seq S30_15 S30_17
noncomputable def S30_19 : SC := .seq S30_1 S30_18
noncomputable def S30_20 : SC := .seq S30_0 S30_19
noncomputable def S30 : SC := S30_20
theorem s30 : Tryz.f30.body.map (slim E0 hm0 30 20) = some S30 := by kernel_rfl
theorem n30 : 2 + (Tryz.f30.ntmps - 2) = 20 := by kernel_rfl
theorem r30 : Tryz.f30.results.toList = [.tmp 4] := by kernel_rfl
theorem fn30 : E0.fns 30 = some Tryz.f30 := Tryz.func30
theorem S30_3_s : slim E0 hm0 30 20 S30_3 = S30_7 := by kernel_rfl
theorem S30_4_s : slim E0 hm0 30 20 S30_4 = S30_12 := by kernel_rfl

/-! (*sync/atomic.Int64).Load -/
noncomputable def S31_0 : SC := .ops [
    ⟨.always, (some 2), .assign (.const (iv 0))⟩]
noncomputable def S31_1 : SC := .ops [
    ⟨.always, (some 3), .move (.tmp 0)⟩,
    ⟨.always, (some 4), .nilCheck (.tmp 3)⟩,
    ⟨.always, (some 5), .fieldAddr 54 (.tmp 4) 2⟩,
    ⟨.always, (some 6), .call ⟨.value (.func 47), #[(.tmp 5)], #[115]⟩⟩,
    ⟨.always, (some 2), .assign (.tmp 6)⟩]
noncomputable def S31_2 : SC := .seq S31_1 .ret
noncomputable def S31_3 : SC := .seq S31_0 S31_2
noncomputable def S31 : SC := S31_3
theorem s31 : Tryz.f31.body.map (slim E0 hm0 31 7) = some S31 := by kernel_rfl
theorem n31 : 1 + (Tryz.f31.ntmps - 1) = 7 := by kernel_rfl
theorem r31 : Tryz.f31.results.toList = [.tmp 2] := by kernel_rfl
theorem fn31 : E0.fns 31 = some Tryz.f31 := Tryz.func31

/-! (*carrack/seg.Seg).Copy -/
noncomputable def S32_0 : SC := .ops [
    ⟨.always, (some 2), .assign (.const (.pointer none))⟩]
noncomputable def S32_1 : SC := .ops [
    ⟨.always, (some 3), .move (.tmp 0)⟩,
    ⟨.always, (some 4), .binOp .eql 37 (.tmp 3) (.const (.pointer none)) 37⟩]
noncomputable def S32_2 : SC := .ops [
    ⟨.always, (some 2), .assign (.const (.pointer none))⟩]
noncomputable def S32_3 : SC := .seq S32_2 .ret
noncomputable def S32_4 : SC := .cond (.tmp 4) S32_3 .skip
noncomputable def S32_5 : SC := .seq S32_1 S32_4
noncomputable def S32_6 : SC := .ops [
    ⟨.always, (some 5), .move (.tmp 0)⟩,
    ⟨.always, (some 6), .nilCheck (.tmp 5)⟩,
    ⟨.always, (some 7), .fieldAddr 88 (.tmp 6) 0⟩,
    ⟨.always, (some 8), .load 86 (.tmp 7)⟩,
    ⟨.always, (some 9), .call ⟨.value (.func 48), #[(.tmp 8)], #[86]⟩⟩,
    ⟨.always, (some 10), .build 88 #[(0, (.tmp 9))]⟩,
    ⟨.always, (some 11), .box 88 (.tmp 10)⟩,
    ⟨.always, (some 2), .assign (.tmp 11)⟩]
noncomputable def S32_7 : SC := .seq S32_6 .ret
noncomputable def S32_8 : SC := .seq S32_5 S32_7
noncomputable def S32_9 : SC := .seq S32_0 S32_8
noncomputable def S32 : SC := S32_9
theorem s32 : Tryz.f32.body.map (slim E0 hm0 32 12) = some S32 := by kernel_rfl
theorem n32 : 1 + (Tryz.f32.ntmps - 1) = 12 := by kernel_rfl
theorem r32 : Tryz.f32.results.toList = [.tmp 2] := by kernel_rfl
theorem fn32 : E0.fns 32 = some Tryz.f32 := Tryz.func32

/-! carrack/head.fits -/
noncomputable def S35_0 : SC := .ops [
    ⟨.always, (some 4), .assign (.const (.bool false))⟩]
noncomputable def S35_1 : SC := .ops [
    ⟨.always, (some 5), .move (.tmp 0)⟩,
    ⟨.always, (some 6), .binOp .rem 22 (.tmp 5) (.const (u 16)) 22⟩,
    ⟨.always, (some 7), .binOp .eql 22 (.tmp 6) (.const (u 0)) 22⟩,
    ⟨.always, (some 8), .move (.tmp 7)⟩,
    ⟨(.on 8 true), (some 9), .move (.tmp 0)⟩,
    ⟨(.on 8 true), (some 10), .binOp .geq 22 (.tmp 9) (.const (u 3824)) 22⟩,
    ⟨.always, (some 11), .pick (.tmp 8) (.tmp 10) (.const (.bool false))⟩,
    ⟨.always, (some 12), .move (.tmp 11)⟩,
    ⟨(.on 12 true), (some 13), .move (.tmp 0)⟩,
    ⟨(.on 12 true), (some 14), .move (.tmp 1)⟩,
    ⟨(.on 12 true), (some 15), .binOp .leq 22 (.tmp 13) (.tmp 14) 22⟩,
    ⟨.always, (some 16), .pick (.tmp 12) (.tmp 15) (.const (.bool false))⟩,
    ⟨.always, (some 4), .assign (.tmp 16)⟩]
noncomputable def S35_2 : SC := .seq S35_1 .ret
noncomputable def S35_3 : SC := .seq S35_0 S35_2
noncomputable def S35 : SC := S35_3
theorem s35 : Tryz.f35.body.map (slim E0 hm0 35 17) = some S35 := by kernel_rfl
theorem n35 : 2 + (Tryz.f35.ntmps - 2) = 17 := by kernel_rfl
theorem r35 : Tryz.f35.results.toList = [.tmp 4] := by kernel_rfl
theorem fn35 : E0.fns 35 = some Tryz.f35 := Tryz.func35

/-! (*carrack/seg.Seg).Size -/
noncomputable def S36_0 : SC := .ops [
    ⟨.always, (some 2), .assign (.const (u 0))⟩]
noncomputable def S36_1 : SC := .ops [
    ⟨.always, (some 3), .move (.tmp 0)⟩,
    ⟨.always, (some 4), .binOp .eql 37 (.tmp 3) (.const (.pointer none)) 37⟩]
noncomputable def S36_2 : SC := .ops [
    ⟨.always, (some 2), .assign (.const (u 0))⟩]
noncomputable def S36_3 : SC := .seq S36_2 .ret
noncomputable def S36_4 : SC := .cond (.tmp 4) S36_3 .skip
noncomputable def S36_5 : SC := .seq S36_1 S36_4
noncomputable def S36_6 : SC := .ops [
    ⟨.always, (some 5), .move (.tmp 0)⟩,
    ⟨.always, (some 6), .nilCheck (.tmp 5)⟩,
    ⟨.always, (some 7), .fieldAddr 88 (.tmp 6) 0⟩,
    ⟨.always, (some 8), .load 86 (.tmp 7)⟩,
    ⟨.always, (some 9), .call ⟨.builtin .len, #[(.tmp 8)], #[86]⟩⟩,
    ⟨.always, (some 10), .convert 3 22 (.tmp 9)⟩,
    ⟨.always, (some 2), .assign (.tmp 10)⟩]
noncomputable def S36_7 : SC := .seq S36_6 .ret
noncomputable def S36_8 : SC := .seq S36_5 S36_7
noncomputable def S36_9 : SC := .seq S36_0 S36_8
noncomputable def S36 : SC := S36_9
theorem s36 : Tryz.f36.body.map (slim E0 hm0 36 11) = some S36 := by kernel_rfl
theorem n36 : 1 + (Tryz.f36.ntmps - 1) = 11 := by kernel_rfl
theorem r36 : Tryz.f36.results.toList = [.tmp 2] := by kernel_rfl
theorem fn36 : E0.fns 36 = some Tryz.f36 := Tryz.func36

/-! (*carrack/seg.Seg).Store -/
noncomputable def S37_0 : SC := .ops [
    ⟨.always, (some 5), .box 22 (.tmp 2)⟩,
    ⟨.always, (some 6), .assign (.const (iv 0))⟩]
noncomputable def S37_1 : SC := .ops [
    ⟨.always, (some 9), .move (.tmp 0)⟩,
    ⟨.always, (some 10), .move (.tmp 1)⟩,
    ⟨.always, (some 11), .call ⟨.value (.func 50), #[(.tmp 9), (.tmp 10)], #[37, 22]⟩⟩,
    ⟨.always, (some 12), .unOp .not 4 (.tmp 11)⟩]
noncomputable def S37_2 : SC := .ops [
    ⟨.always, (some 6), .assign (.const (iv 1))⟩]
noncomputable def S37_3 : SC := .seq S37_2 .ret
noncomputable def S37_4 : SC := .cond (.tmp 12) S37_3 .skip
noncomputable def S37_5 : SC := .seq S37_1 S37_4
noncomputable def S37_6 : SC := .ops [
    ⟨.always, (some 13), .makeFunc (.func 51) #[] #[(.tmp 5)]⟩,
    ⟨.always, (some 7), .assign (.tmp 13)⟩]
noncomputable def S37_7 : SC := .ops [
    ⟨.always, (some 14), .move (.const (iv 0))⟩]
noncomputable def S37_8 : SC := .ops [
    ⟨.always, (some 15), .binOp .lss 3 (.tmp 14) (.const (iv 8)) 3⟩]
noncomputable def S37_9 : SC := .cond (.tmp 15) .skip (.exit 0)
noncomputable def S37_10 : SC := .ops [
    ⟨.always, (some 16), .move (.tmp 14)⟩,
    ⟨.always, (some 8), .assign (.tmp 16)⟩]
noncomputable def S37_11 : SC := .draw [] [
    (0, ⟨.always, (some 17), .move (.tmp 0)⟩),
    (0, ⟨.always, (some 18), .nilCheck (.tmp 17)⟩),
    (0, ⟨.always, (some 19), .fieldAddr 88 (.tmp 18) 0⟩),
    (2, ⟨.always, (some 20), .load 86 (.tmp 19)⟩),
    (0, ⟨.always, (some 21), .move (.tmp 1)⟩),
    (0, ⟨.always, (some 22), .move (.tmp 8)⟩),
    (0, ⟨.always, (some 23), .convert 3 22 (.tmp 22)⟩),
    (0, ⟨.always, (some 24), .binOp .add 22 (.tmp 21) (.tmp 23) 22⟩),
    (0, ⟨.always, (some 25), .move (.tmp 7)⟩),
    (0, ⟨.always, (some 26), .move (.tmp 8)⟩),
    (3, ⟨.always, (some 27), .call ⟨.value (.tmp 25), #[(.tmp 26)], #[3]⟩⟩),
    (0, ⟨.always, (some 28), .indexAddr 86 (.tmp 20) (.tmp 24)⟩),
    (4, ⟨.always, none, .store 5 (.tmp 28) (.tmp 27)⟩)]
noncomputable def S37_12 : SC := .seq S37_10 S37_11
noncomputable def S37_13 : SC := .blk 1 S37_12
noncomputable def S37_14 : SC := .ops [
    ⟨.always, (some 29), .binOp .add 3 (.tmp 14) (.const (iv 1)) 3⟩,
    ⟨.always, (some 14), .move (.tmp 29)⟩]
noncomputable def S37_15 : SC := .seq S37_13 S37_14
noncomputable def S37_16 : SC := .seq S37_9 S37_15
noncomputable def S37_17 : SC := .seq S37_8 S37_16
noncomputable def S37_18 : SC := .loop S37_17
noncomputable def S37_19 : SC := .blk 0 S37_18
noncomputable def S37_20 : SC := .seq S37_7 S37_19
noncomputable def S37_21 : SC := .ops [
    ⟨.always, (some 6), .assign (.const (iv 0))⟩]
noncomputable def S37_22 : SC := .seq S37_21 .ret
noncomputable def S37_23 : SC := .seq S37_20 S37_22
noncomputable def S37_24 : SC := .seq S37_6 S37_23
noncomputable def S37_25 : SC := .seq S37_5 S37_24
noncomputable def S37_26 : SC := .seq S37_0 S37_25
noncomputable def S37 : SC := S37_26
theorem s37 : Tryz.f37.body.map (slim E0 hm0 37 30) = some S37 := by kernel_rfl
theorem n37 : 3 + (Tryz.f37.ntmps - 3) = 30 := by kernel_rfl
theorem r37 : Tryz.f37.results.toList = [.tmp 6] := by kernel_rfl
theorem fn37 : E0.fns 37 = some Tryz.f37 := Tryz.func37

/-! carrack/head.Format$1 -/
noncomputable def S38_0 : SC := .ops [
    ⟨.always, (some 5), .load 37 (.tmp 2)⟩,
    ⟨.always, (some 6), .move (.tmp 0)⟩,
    ⟨.always, (some 7), .move (.tmp 1)⟩,
    ⟨.always, (some 8), .call ⟨.value (.func 37), #[(.tmp 5), (.tmp 6), (.tmp 7)], #[37, 22, 22]⟩⟩]
noncomputable def S38 : SC := S38_0
theorem s38 : Tryz.f38.body.map (slim E0 hm0 38 9) = some S38 := by kernel_rfl
theorem n38 : 3 + (Tryz.f38.ntmps - 3) = 9 := by kernel_rfl
theorem r38 : Tryz.f38.results.toList = [] := by kernel_rfl
theorem fn38 : E0.fns 38 = some Tryz.f38 := Tryz.func38

/-! carrack/head.Sum -/
noncomputable def S39_0 : SC := .ops [
    ⟨.always, (some 2), .assign (.const (u 0))⟩]
noncomputable def S39_1 : SC := .ops [
    ⟨.always, (some 3), .move (.tmp 0)⟩,
    ⟨.always, (some 4), .binOp .xor 22 (.const (u 7161130718081542961)) (.tmp 3) 22⟩,
    ⟨.always, (some 5), .call ⟨.value (.func 52), #[(.tmp 4)], #[22]⟩⟩,
    ⟨.always, (some 2), .assign (.tmp 5)⟩]
noncomputable def S39_2 : SC := .seq S39_1 .ret
noncomputable def S39_3 : SC := .seq S39_0 S39_2
noncomputable def S39 : SC := S39_3
theorem s39 : Tryz.f39.body.map (slim E0 hm0 39 6) = some S39 := by kernel_rfl
theorem n39 : 1 + (Tryz.f39.ntmps - 1) = 6 := by kernel_rfl
theorem r39 : Tryz.f39.results.toList = [.tmp 2] := by kernel_rfl
theorem fn39 : E0.fns 39 = some Tryz.f39 := Tryz.func39

/-! carrack/client.State -/
noncomputable def S40_0 : SC := .ops [
    ⟨.always, (some 4), .assign (.const (u 0))⟩]
noncomputable def S40_1 : SC := .ops [
    ⟨.always, (some 5), .move (.tmp 0)⟩,
    ⟨.always, (some 6), .move (.tmp 1)⟩,
    ⟨.always, (some 7), .call ⟨.value (.func 53), #[(.tmp 5), (.tmp 6), (.const (u 0))], #[70, 3, 22]⟩⟩,
    ⟨.always, (some 4), .assign (.tmp 7)⟩]
noncomputable def S40_2 : SC := .seq S40_1 .ret
noncomputable def S40_3 : SC := .seq S40_0 S40_2
noncomputable def S40 : SC := S40_3
theorem s40 : Tryz.f40.body.map (slim E0 hm0 40 8) = some S40 := by kernel_rfl
theorem n40 : 2 + (Tryz.f40.ntmps - 2) = 8 := by kernel_rfl
theorem r40 : Tryz.f40.results.toList = [.tmp 4] := by kernel_rfl
theorem fn40 : E0.fns 40 = some Tryz.f40 := Tryz.func40

/-! (*carrack/tx.Tx).Load -/
noncomputable def S45_0 : SC := .ops [
    ⟨.always, (some 4), .assign (.const (u 0))⟩]
noncomputable def S45_1 : SC := .ops [
    ⟨.always, (some 7), .move (.tmp 0)⟩,
    ⟨.always, (some 8), .binOp .eql 70 (.tmp 7) (.const (.pointer none)) 70⟩]
noncomputable def S45_2 : SC := .ops [
    ⟨.always, (some 4), .assign (.const (u 0))⟩]
noncomputable def S45_3 : SC := .seq S45_2 .ret
noncomputable def S45_4 : SC := .cond (.tmp 8) S45_3 .skip
noncomputable def S45_5 : SC := .seq S45_1 S45_4
noncomputable def S45_6 : SC := .ops [
    ⟨.always, (some 10), .move (.tmp 0)⟩,
    ⟨.always, (some 11), .nilCheck (.tmp 10)⟩,
    ⟨.always, (some 12), .fieldAddr 120 (.tmp 11) 1⟩,
    ⟨.always, (some 13), .load 117 (.tmp 12)⟩,
    ⟨.always, (some 14), .move (.tmp 1)⟩,
    ⟨.always, (some 15), .lookup 117 (.tmp 13) (.tmp 14) true⟩,
    ⟨.always, (some 9), .move (.tmp 15)⟩,
    ⟨.always, (some 16), .extract (.tmp 9) 0⟩,
    ⟨.always, (some 17), .extract (.tmp 9) 1⟩,
    ⟨.always, (some 5), .assign (.tmp 16)⟩,
    ⟨.always, (some 6), .assign (.tmp 17)⟩]
noncomputable def S45_7 : SC := .ops [
    ⟨.always, (some 18), .move (.tmp 6)⟩]
noncomputable def S45_8 : SC := .ops [
    ⟨.always, (some 19), .move (.tmp 5)⟩,
    ⟨.always, (some 4), .assign (.tmp 19)⟩]
noncomputable def S45_9 : SC := .seq S45_8 .ret
noncomputable def S45_10 : SC := .cond (.tmp 18) S45_9 .skip
noncomputable def S45_11 : SC := .seq S45_7 S45_10
noncomputable def S45_12 : SC := .seq S45_6 S45_11
noncomputable def S45_13 : SC := .ops [
    ⟨.always, (some 20), .move (.tmp 0)⟩,
    ⟨.always, (some 21), .move (.tmp 1)⟩,
    ⟨.always, (some 22), .call ⟨.value (.func 61), #[(.tmp 20), (.tmp 21)], #[70, 22]⟩⟩,
    ⟨.always, (some 4), .assign (.tmp 22)⟩]
noncomputable def S45_14 : SC := .seq S45_13 .ret
noncomputable def S45_15 : SC := .seq S45_12 S45_14
noncomputable def S45_16 : SC := .seq S45_5 S45_15
noncomputable def S45_17 : SC := .seq S45_0 S45_16
noncomputable def S45 : SC := S45_17
theorem s45 : Tryz.f45.body.map (slim E0 hm0 45 23) = some S45 := by kernel_rfl
theorem n45 : 2 + (Tryz.f45.ntmps - 2) = 23 := by kernel_rfl
theorem r45 : Tryz.f45.results.toList = [.tmp 4] := by kernel_rfl
theorem fn45 : E0.fns 45 = some Tryz.f45 := Tryz.func45

/-! carrack/client.states -/
noncomputable def S46_0 : SC := .ops [
    ⟨.always, (some 1), .box 70 (.tmp 0)⟩,
    ⟨.always, (some 2), .assign (.const .nilFunc)⟩]
noncomputable def S46_1 : SC := .ops [
    ⟨.always, (some 3), .makeFunc (.func 62) #[] #[(.tmp 1)]⟩,
    ⟨.always, (some 2), .assign (.tmp 3)⟩]
noncomputable def S46_2 : SC := .seq S46_1 .ret
noncomputable def S46_3 : SC := .seq S46_0 S46_2
noncomputable def S46 : SC := S46_3
theorem s46 : Tryz.f46.body.map (slim E0 hm0 46 4) = some S46 := by kernel_rfl
theorem n46 : 1 + (Tryz.f46.ntmps - 1) = 4 := by kernel_rfl
theorem r46 : Tryz.f46.results.toList = [.tmp 2] := by kernel_rfl
theorem fn46 : E0.fns 46 = some Tryz.f46 := Tryz.func46

/-! slices.Clone[[]byte,byte] -/
noncomputable def S48_0 : SC := .ops [
    ⟨.always, (some 2), .assign (.const (.slice none 0 0))⟩]
noncomputable def S48_1 : SC := .ops [
    ⟨.always, (some 3), .move (.tmp 0)⟩,
    ⟨.always, (some 4), .binOp .eql 86 (.tmp 3) (.const (.slice none 0 0)) 86⟩]
noncomputable def S48_2 : SC := .ops [
    ⟨.always, (some 2), .assign (.const (.slice none 0 0))⟩]
noncomputable def S48_3 : SC := .seq S48_2 .ret
noncomputable def S48_4 : SC := .cond (.tmp 4) S48_3 .skip
noncomputable def S48_5 : SC := .seq S48_1 S48_4
noncomputable def S48_6 : SC := .ops [
    ⟨.always, (some 5), .buildSlice 86 0 #[]⟩,
    ⟨.always, (some 6), .move (.tmp 0)⟩,
    ⟨.always, (some 7), .call ⟨.builtin .append, #[(.tmp 5), (.tmp 6)], #[86, 86]⟩⟩,
    ⟨.always, (some 2), .assign (.tmp 7)⟩]
noncomputable def S48_7 : SC := .seq S48_6 .ret
noncomputable def S48_8 : SC := .seq S48_5 S48_7
noncomputable def S48_9 : SC := .seq S48_0 S48_8
noncomputable def S48 : SC := S48_9
theorem s48 : Tryz.f48.body.map (slim E0 hm0 48 8) = some S48 := by kernel_rfl
theorem n48 : 1 + (Tryz.f48.ntmps - 1) = 8 := by kernel_rfl
theorem r48 : Tryz.f48.results.toList = [.tmp 2] := by kernel_rfl
theorem fn48 : E0.fns 48 = some Tryz.f48 := Tryz.func48

/-! (*carrack/seg.Seg).in -/
noncomputable def S50_0 : SC := .ops [
    ⟨.always, (some 4), .assign (.const (.bool false))⟩]
noncomputable def S50_1 : SC := .ops [
    ⟨.always, (some 5), .move (.tmp 1)⟩,
    ⟨.always, (some 6), .binOp .rem 22 (.tmp 5) (.const (u 8)) 22⟩,
    ⟨.always, (some 7), .binOp .eql 22 (.tmp 6) (.const (u 0)) 22⟩,
    ⟨.always, (some 8), .move (.tmp 7)⟩,
    ⟨(.on 8 true), (some 9), .move (.tmp 1)⟩,
    ⟨(.on 8 true), (some 10), .move (.tmp 0)⟩,
    ⟨(.on 8 true), (some 11), .call ⟨.value (.func 36), #[(.tmp 10)], #[37]⟩⟩,
    ⟨(.on 8 true), (some 12), .binOp .lss 22 (.tmp 9) (.tmp 11) 22⟩,
    ⟨.always, (some 13), .pick (.tmp 8) (.tmp 12) (.const (.bool false))⟩,
    ⟨.always, (some 4), .assign (.tmp 13)⟩]
noncomputable def S50_2 : SC := .seq S50_1 .ret
noncomputable def S50_3 : SC := .seq S50_0 S50_2
noncomputable def S50 : SC := S50_3
theorem s50 : Tryz.f50.body.map (slim E0 hm0 50 14) = some S50 := by kernel_rfl
theorem n50 : 2 + (Tryz.f50.ntmps - 2) = 14 := by kernel_rfl
theorem r50 : Tryz.f50.results.toList = [.tmp 4] := by kernel_rfl
theorem fn50 : E0.fns 50 = some Tryz.f50 := Tryz.func50

/-! (*carrack/seg.Seg).Store$1 -/
noncomputable def S51_0 : SC := .ops [
    ⟨.always, (some 3), .assign (.const (.int .u8 0))⟩]
noncomputable def S51_1 : SC := .ops [
    ⟨.always, (some 4), .load 22 (.tmp 1)⟩,
    ⟨.always, (some 5), .move (.tmp 0)⟩,
    ⟨.always, (some 6), .binOp .mul 3 (.const (iv 8)) (.tmp 5) 3⟩,
    ⟨.always, (some 7), .binOp .shr 22 (.tmp 4) (.tmp 6) 3⟩,
    ⟨.always, (some 8), .convert 22 5 (.tmp 7)⟩,
    ⟨.always, (some 3), .assign (.tmp 8)⟩]
noncomputable def S51_2 : SC := .seq S51_1 .ret
noncomputable def S51_3 : SC := .seq S51_0 S51_2
noncomputable def S51 : SC := S51_3
theorem s51 : Tryz.f51.body.map (slim E0 hm0 51 9) = some S51 := by kernel_rfl
theorem n51 : 2 + (Tryz.f51.ntmps - 2) = 9 := by kernel_rfl
theorem r51 : Tryz.f51.results.toList = [.tmp 3] := by kernel_rfl
theorem fn51 : E0.fns 51 = some Tryz.f51 := Tryz.func51

/-! carrack/word.Mix -/
noncomputable def S52_0 : SC := .ops [
    ⟨.always, (some 2), .assign (.const (u 0))⟩]
noncomputable def S52_1 : SC := .ops [
    ⟨.always, (some 3), .move (.tmp 0)⟩,
    ⟨.always, (some 4), .binOp .mul 22 (.tmp 3) (.const (u 11400714819323198485)) 22⟩,
    ⟨.always, (some 2), .assign (.tmp 4)⟩]
noncomputable def S52_2 : SC := .seq S52_1 .ret
noncomputable def S52_3 : SC := .seq S52_0 S52_2
noncomputable def S52 : SC := S52_3
theorem s52 : Tryz.f52.body.map (slim E0 hm0 52 5) = some S52 := by kernel_rfl
theorem n52 : 1 + (Tryz.f52.ntmps - 1) = 5 := by kernel_rfl
theorem r52 : Tryz.f52.results.toList = [.tmp 2] := by kernel_rfl
theorem fn52 : E0.fns 52 = some Tryz.f52 := Tryz.func52

/-! carrack/client.get -/
noncomputable def S53_0 : SC := .ops [
    ⟨.always, (some 6), .assign (.const (u 0))⟩]
noncomputable def S53_1 : SC := .ops [
    ⟨.always, (some 10), .move (.tmp 1)⟩,
    ⟨.always, (some 11), .move (.tmp 2)⟩,
    ⟨.always, (some 12), .call ⟨.value (.func 58), #[(.tmp 10), (.tmp 11)], #[3, 22]⟩⟩,
    ⟨.always, (some 9), .move (.tmp 12)⟩,
    ⟨.always, (some 13), .extract (.tmp 9) 0⟩,
    ⟨.always, (some 14), .extract (.tmp 9) 1⟩,
    ⟨.always, (some 7), .assign (.tmp 13)⟩,
    ⟨.always, (some 8), .assign (.tmp 14)⟩]
noncomputable def S53_2 : SC := .ops [
    ⟨.always, (some 15), .move (.tmp 8)⟩,
    ⟨.always, (some 16), .unOp .not 4 (.tmp 15)⟩]
noncomputable def S53_3 : SC := .ops [
    ⟨.always, (some 6), .assign (.const (u 0))⟩]
noncomputable def S53_4 : SC := .seq S53_3 .ret
noncomputable def S53_5 : SC := .cond (.tmp 16) S53_4 .skip
noncomputable def S53_6 : SC := .seq S53_2 S53_5
noncomputable def S53_7 : SC := .ops [
    ⟨.always, (some 17), .move (.tmp 0)⟩,
    ⟨.always, (some 18), .move (.tmp 7)⟩,
    ⟨.always, (some 19), .call ⟨.value (.func 45), #[(.tmp 17), (.tmp 18)], #[70, 22]⟩⟩,
    ⟨.always, (some 6), .assign (.tmp 19)⟩]
noncomputable def S53_8 : SC := .seq S53_7 .ret
noncomputable def S53_9 : SC := .seq S53_6 S53_8
noncomputable def S53_10 : SC := .seq S53_1 S53_9
noncomputable def S53_11 : SC := .seq S53_0 S53_10
noncomputable def S53 : SC := S53_11
theorem s53 : Tryz.f53.body.map (slim E0 hm0 53 20) = some S53 := by kernel_rfl
theorem n53 : 3 + (Tryz.f53.ntmps - 3) = 20 := by kernel_rfl
theorem r53 : Tryz.f53.results.toList = [.tmp 6] := by kernel_rfl
theorem fn53 : E0.fns 53 = some Tryz.f53 := Tryz.func53

/-! carrack/client.Word -/
noncomputable def S58_0 : SC := .ops [
    ⟨.always, (some 4), .assign (.const (u 0))⟩,
    ⟨.always, (some 5), .assign (.const (.bool false))⟩]
noncomputable def S58_1 : SC := .ops [
    ⟨.always, (some 6), .move (.tmp 0)⟩,
    ⟨.always, (some 7), .binOp .lss 3 (.tmp 6) (.const (iv 0)) 3⟩,
    ⟨.always, (some 8), .move (.tmp 7)⟩,
    ⟨(.on 8 false), (some 9), .move (.tmp 0)⟩,
    ⟨(.on 8 false), (some 10), .binOp .geq 3 (.tmp 9) (.const (iv 8)) 3⟩,
    ⟨.always, (some 11), .pick (.tmp 8) (.const (.bool true)) (.tmp 10)⟩,
    ⟨.always, (some 12), .move (.tmp 11)⟩,
    ⟨(.on 12 false), (some 13), .move (.tmp 1)⟩,
    ⟨(.on 12 false), (some 14), .binOp .rem 22 (.tmp 13) (.const (u 8)) 22⟩,
    ⟨(.on 12 false), (some 15), .binOp .neq 22 (.tmp 14) (.const (u 0)) 22⟩,
    ⟨.always, (some 16), .pick (.tmp 12) (.const (.bool true)) (.tmp 15)⟩,
    ⟨.always, (some 17), .move (.tmp 16)⟩,
    ⟨(.on 17 false), (some 18), .move (.tmp 1)⟩,
    ⟨(.on 17 false), (some 19), .binOp .geq 22 (.tmp 18) (.const (u 416)) 22⟩,
    ⟨.always, (some 20), .pick (.tmp 17) (.const (.bool true)) (.tmp 19)⟩]
noncomputable def S58_2 : SC := .ops [
    ⟨.always, (some 4), .assign (.const (u 0))⟩,
    ⟨.always, (some 5), .assign (.const (.bool false))⟩]
noncomputable def S58_3 : SC := .seq S58_2 .ret
noncomputable def S58_4 : SC := .cond (.tmp 20) S58_3 .skip
noncomputable def S58_5 : SC := .seq S58_1 S58_4
noncomputable def S58_6 : SC := .ops [
    ⟨.always, (some 21), .move (.tmp 0)⟩,
    ⟨.always, (some 22), .convert 3 22 (.tmp 21)⟩,
    ⟨.always, (some 23), .binOp .mul 22 (.const (u 416)) (.tmp 22) 22⟩,
    ⟨.always, (some 24), .binOp .add 22 (.const (u 64)) (.tmp 23) 22⟩,
    ⟨.always, (some 25), .move (.tmp 1)⟩,
    ⟨.always, (some 26), .binOp .add 22 (.tmp 24) (.tmp 25) 22⟩,
    ⟨.always, (some 4), .assign (.tmp 26)⟩,
    ⟨.always, (some 5), .assign (.const (.bool true))⟩]
noncomputable def S58_7 : SC := .seq S58_6 .ret
noncomputable def S58_8 : SC := .seq S58_5 S58_7
noncomputable def S58_9 : SC := .seq S58_0 S58_8
noncomputable def S58 : SC := S58_9
theorem s58 : Tryz.f58.body.map (slim E0 hm0 58 27) = some S58 := by kernel_rfl
theorem n58 : 2 + (Tryz.f58.ntmps - 2) = 27 := by kernel_rfl
theorem r58 : Tryz.f58.results.toList = [.tmp 4, .tmp 5] := by kernel_rfl
theorem fn58 : E0.fns 58 = some Tryz.f58 := Tryz.func58

/-! (*carrack/tx.Tx).Old -/
noncomputable def S61_0 : SC := .ops [
    ⟨.always, (some 4), .assign (.const (u 0))⟩]
noncomputable def S61_1 : SC := .ops [
    ⟨.always, (some 7), .move (.tmp 0)⟩,
    ⟨.always, (some 8), .binOp .eql 70 (.tmp 7) (.const (.pointer none)) 70⟩]
noncomputable def S61_2 : SC := .ops [
    ⟨.always, (some 4), .assign (.const (u 0))⟩]
noncomputable def S61_3 : SC := .seq S61_2 .ret
noncomputable def S61_4 : SC := .cond (.tmp 8) S61_3 .skip
noncomputable def S61_5 : SC := .seq S61_1 S61_4
noncomputable def S61_6 : SC := .ops [
    ⟨.always, (some 10), .move (.tmp 0)⟩,
    ⟨.always, (some 11), .nilCheck (.tmp 10)⟩,
    ⟨.always, (some 12), .fieldAddr 120 (.tmp 11) 0⟩,
    ⟨.always, (some 13), .load 37 (.tmp 12)⟩,
    ⟨.always, (some 14), .move (.tmp 1)⟩,
    ⟨.always, (some 15), .call ⟨.value (.func 70), #[(.tmp 13), (.tmp 14)], #[37, 22]⟩⟩,
    ⟨.always, (some 9), .move (.tmp 15)⟩,
    ⟨.always, (some 16), .extract (.tmp 9) 0⟩,
    ⟨.always, (some 17), .extract (.tmp 9) 1⟩,
    ⟨.always, (some 5), .assign (.tmp 16)⟩,
    ⟨.always, (some 6), .assign (.tmp 17)⟩]
noncomputable def S61_7 : SC := .ops [
    ⟨.always, (some 18), .move (.tmp 5)⟩,
    ⟨.always, (some 4), .assign (.tmp 18)⟩]
noncomputable def S61_8 : SC := .seq S61_7 .ret
noncomputable def S61_9 : SC := .seq S61_6 S61_8
noncomputable def S61_10 : SC := .seq S61_5 S61_9
noncomputable def S61_11 : SC := .seq S61_0 S61_10
noncomputable def S61 : SC := S61_11
theorem s61 : Tryz.f61.body.map (slim E0 hm0 61 19) = some S61 := by kernel_rfl
theorem n61 : 2 + (Tryz.f61.ntmps - 2) = 19 := by kernel_rfl
theorem r61 : Tryz.f61.results.toList = [.tmp 4] := by kernel_rfl
theorem fn61 : E0.fns 61 = some Tryz.f61 := Tryz.func61

/-! carrack/client.states$1 -/
noncomputable def S62_0 : SC := .ops [
    ⟨.always, (some 4), .move (.const (iv 0))⟩]
noncomputable def S62_1 : SC := .ops [
    ⟨.always, (some 5), .binOp .lss 3 (.tmp 4) (.const (iv 8)) 3⟩]
noncomputable def S62_2 : SC := .cond (.tmp 5) .skip (.exit 0)
noncomputable def S62_3 : SC := .ops [
    ⟨.always, (some 6), .move (.tmp 4)⟩,
    ⟨.always, (some 3), .assign (.tmp 6)⟩]
noncomputable def S62_4 : SC := .ops [
    ⟨.always, (some 7), .move (.tmp 0)⟩,
    ⟨.always, (some 8), .move (.tmp 3)⟩,
    ⟨.always, (some 9), .load 70 (.tmp 1)⟩,
    ⟨.always, (some 10), .move (.tmp 3)⟩,
    ⟨.always, (some 11), .call ⟨.value (.func 40), #[(.tmp 9), (.tmp 10)], #[70, 3]⟩⟩,
    ⟨.always, (some 12), .call ⟨.value (.tmp 7), #[(.tmp 8), (.tmp 11)], #[3, 22]⟩⟩,
    ⟨.always, (some 13), .unOp .not 4 (.tmp 12)⟩]
noncomputable def S62_5 : SC := .cond (.tmp 13) .ret .skip
noncomputable def S62_6 : SC := .seq S62_4 S62_5
noncomputable def S62_7 : SC := .seq S62_3 S62_6
noncomputable def S62_8 : SC := .blk 1 S62_7
noncomputable def S62_9 : SC := .ops [
    ⟨.always, (some 14), .binOp .add 3 (.tmp 4) (.const (iv 1)) 3⟩,
    ⟨.always, (some 4), .move (.tmp 14)⟩]
noncomputable def S62_10 : SC := .seq S62_8 S62_9
noncomputable def S62_11 : SC := .seq S62_2 S62_10
noncomputable def S62_12 : SC := .seq S62_1 S62_11
noncomputable def S62_13 : SC := .loop S62_12
noncomputable def S62_14 : SC := .blk 0 S62_13
noncomputable def S62_15 : SC := .seq S62_0 S62_14
noncomputable def S62 : SC := S62_15
theorem s62 : Tryz.f62.body.map (slim E0 hm0 62 15) = some S62 := by kernel_rfl
theorem n62 : 2 + (Tryz.f62.ntmps - 2) = 15 := by kernel_rfl
theorem r62 : Tryz.f62.results.toList = [] := by kernel_rfl
theorem fn62 : E0.fns 62 = some Tryz.f62 := Tryz.func62

/-! (*carrack/seg.Seg).Load -/
noncomputable def S70_0 : SC := .ops [
    ⟨.always, (some 4), .assign (.const (u 0))⟩,
    ⟨.always, (some 5), .assign (.const (iv 0))⟩]
noncomputable def S70_1 : SC := .ops [
    ⟨.always, (some 9), .move (.tmp 0)⟩,
    ⟨.always, (some 10), .move (.tmp 1)⟩,
    ⟨.always, (some 11), .call ⟨.value (.func 50), #[(.tmp 9), (.tmp 10)], #[37, 22]⟩⟩,
    ⟨.always, (some 12), .unOp .not 4 (.tmp 11)⟩]
noncomputable def S70_2 : SC := .ops [
    ⟨.always, (some 4), .assign (.const (u 0))⟩,
    ⟨.always, (some 5), .assign (.const (iv 1))⟩]
noncomputable def S70_3 : SC := .seq S70_2 .ret
noncomputable def S70_4 : SC := .cond (.tmp 12) S70_3 .skip
noncomputable def S70_5 : SC := .seq S70_1 S70_4
noncomputable def S70_6 : SC := .ops [
    ⟨.always, (some 6), .alloc 22⟩]
noncomputable def S70_7 : SC := .ops [
    ⟨.always, (some 13), .move (.tmp 0)⟩,
    ⟨.always, (some 14), .nilCheck (.tmp 13)⟩,
    ⟨.always, (some 15), .fieldAddr 88 (.tmp 14) 0⟩,
    ⟨.always, (some 16), .load 86 (.tmp 15)⟩,
    ⟨.always, (some 17), .move (.tmp 1)⟩,
    ⟨.always, (some 18), .move (.tmp 1)⟩,
    ⟨.always, (some 19), .binOp .add 22 (.tmp 18) (.const (u 8)) 22⟩,
    ⟨.always, (some 20), .slice 86 (.tmp 16) (some (.tmp 17)) (some (.tmp 19)) none⟩,
    ⟨.always, (some 21), .call ⟨.value (.func 81), #[(.tmp 20)], #[86]⟩⟩]
noncomputable def S70_8 : Code := codeAt [1, 1, 1, 0, 1, 0, 0] (bodyOf Tryz.f70)
noncomputable def S70_9 : Code := codeAt [1, 1, 1, 0, 1, 0, 1] (bodyOf Tryz.f70)
noncomputable def S70_10 : SC := .ops [
    ⟨.always, (some 8), .assign (.tmp 23)⟩]
noncomputable def S70_11 : SC := .ops [
    ⟨.always, (some 24), .load 22 (.tmp 6)⟩,
    ⟨.always, (some 25), .binOp .shl 22 (.tmp 24) (.const (u 8)) 172⟩,
    ⟨.always, (some 26), .move (.tmp 8)⟩,
    ⟨.always, (some 27), .convert 5 22 (.tmp 26)⟩,
    ⟨.always, (some 28), .binOp .or 22 (.tmp 25) (.tmp 27) 22⟩,
    ⟨.always, none, .store 22 (.tmp 6) (.tmp 28)⟩]
noncomputable def S70_12 : SC := .blk 1 S70_11
noncomputable def S70_13 : SC := .range (.tmp 21) #[22, 23] S70_8 S70_9
noncomputable def S70_14 : SC := .blk 0 S70_13
noncomputable def S70_15 : SC := .seq S70_7 S70_14
noncomputable def S70_16 : SC := .ops [
    ⟨.always, (some 29), .load 22 (.tmp 6)⟩,
    ⟨.always, (some 4), .assign (.tmp 29)⟩,
    ⟨.always, (some 5), .assign (.const (iv 0))⟩]
noncomputable def S70_17 : SC := .seq S70_16 .ret
noncomputable def S70_18 : SC := .seq S70_15 S70_17
noncomputable def S70_19 : SC := .seq S70_6 S70_18
noncomputable def S70_20 : SC := .seq S70_5 S70_19
noncomputable def S70_21 : SC := .seq S70_0 S70_20
noncomputable def S70 : SC := S70_21
theorem s70 : Tryz.f70.body.map (slim E0 hm0 70 30) = some S70 := by kernel_rfl
theorem n70 : 2 + (Tryz.f70.ntmps - 2) = 30 := by kernel_rfl
theorem r70 : Tryz.f70.results.toList = [.tmp 4, .tmp 5] := by kernel_rfl
theorem fn70 : E0.fns 70 = some Tryz.f70 := Tryz.func70
theorem S70_8_s : slim E0 hm0 70 30 S70_8 = S70_10 := by kernel_rfl
theorem S70_9_s : slim E0 hm0 70 30 S70_9 = S70_12 := by kernel_rfl

/-! slices.Backward[[]byte,byte] -/
noncomputable def S81_0 : SC := .ops [
    ⟨.always, (some 1), .box 86 (.tmp 0)⟩,
    ⟨.always, (some 2), .assign (.const .nilFunc)⟩]
noncomputable def S81_1 : SC := .ops [
    ⟨.always, (some 3), .makeFunc (.func 103) #[] #[(.tmp 1)]⟩,
    ⟨.always, (some 2), .assign (.tmp 3)⟩]
noncomputable def S81_2 : SC := .seq S81_1 .ret
noncomputable def S81_3 : SC := .seq S81_0 S81_2
noncomputable def S81 : SC := S81_3
theorem s81 : Tryz.f81.body.map (slim E0 hm0 81 4) = some S81 := by kernel_rfl
theorem n81 : 1 + (Tryz.f81.ntmps - 1) = 4 := by kernel_rfl
theorem r81 : Tryz.f81.results.toList = [.tmp 2] := by kernel_rfl
theorem fn81 : E0.fns 81 = some Tryz.f81 := Tryz.func81

/-! slices.Backward[[]byte,byte]$1 -/
noncomputable def S103_0 : SC := .ops [
    ⟨.always, (some 4), .load 86 (.tmp 1)⟩,
    ⟨.always, (some 5), .call ⟨.builtin .len, #[(.tmp 4)], #[86]⟩⟩,
    ⟨.always, (some 6), .binOp .sub 3 (.tmp 5) (.const (iv 1)) 3⟩,
    ⟨.always, (some 3), .assign (.tmp 6)⟩]
noncomputable def S103_1 : SC := .ops [
    ⟨.always, (some 7), .move (.tmp 3)⟩,
    ⟨.always, (some 8), .binOp .geq 3 (.tmp 7) (.const (iv 0)) 3⟩]
noncomputable def S103_2 : SC := .cond (.tmp 8) .skip (.exit 0)
noncomputable def S103_3 : SC := .seq S103_1 S103_2
noncomputable def S103_4 : SC := .ops [
    ⟨.always, (some 11), .move (.tmp 0)⟩,
    ⟨.always, (some 12), .move (.tmp 3)⟩,
    ⟨.always, (some 13), .load 86 (.tmp 1)⟩,
    ⟨.always, (some 14), .move (.tmp 3)⟩,
    ⟨.always, (some 15), .indexAddr 86 (.tmp 13) (.tmp 14)⟩,
    ⟨.always, (some 16), .load 5 (.tmp 15)⟩,
    ⟨.always, (some 17), .call ⟨.value (.tmp 11), #[(.tmp 12), (.tmp 16)], #[3, 5]⟩⟩,
    ⟨.always, (some 18), .unOp .not 4 (.tmp 17)⟩]
noncomputable def S103_5 : SC := .cond (.tmp 18) .ret .skip
noncomputable def S103_6 : SC := .seq S103_4 S103_5
noncomputable def S103_7 : SC := .blk 1 S103_6
noncomputable def S103_8 : SC := .ops [
    ⟨.always, (some 9), .move (.tmp 3)⟩,
    ⟨.always, (some 10), .binOp .sub 3 (.tmp 9) (.const (iv 1)) 3⟩,
    ⟨.always, (some 3), .assign (.tmp 10)⟩]
noncomputable def S103_9 : SC := .seq S103_7 S103_8
noncomputable def S103_10 : SC := .seq S103_3 S103_9
noncomputable def S103_11 : SC := .loop S103_10
noncomputable def S103_12 : SC := .blk 0 S103_11
noncomputable def S103_13 : SC := .seq S103_0 S103_12
noncomputable def S103 : SC := S103_13
theorem s103 : Tryz.f103.body.map (slim E0 hm0 103 19) = some S103 := by kernel_rfl
theorem n103 : 2 + (Tryz.f103.ntmps - 2) = 19 := by kernel_rfl
theorem r103 : Tryz.f103.results.toList = [] := by kernel_rfl
theorem fn103 : E0.fns 103 = some Tryz.f103 := Tryz.func103

end Go.Abs

namespace Go.Abs
open Go Go.Proofs
theorem fa56_1 {i off : Nat} : aFieldAddr E0 56 (ptr i off) 1 = some (ptr i (off + 1)) := fa_eq (by kernel_rfl)
theorem ia49 {i off k : Nat} {kd : IntKind} (hk : k < 8) : aIndexAddr E0 49 (ptr i off) (.int kd (k : Int)) = some (ptr i (off + k * 1)) := iaA_eq (by kernel_rfl) hk
theorem iau49 {i off k : Nat} (hk : k < 8) : aIndexAddr E0 49 (ptr i off) (u k) = some (ptr i (off + k * 1)) := ia49 hk
theorem iai49 {i off k : Nat} (hk : k < 8) : aIndexAddr E0 49 (ptr i off) (iv (k : Int)) = some (ptr i (off + k * 1)) := ia49 hk
theorem ld48 {i off : Nat} {A : AHeap} : aLoad E0 48 (ptr i off) A = A.cell i off := ld_eq (by kernel_rfl)
theorem fa56_0 {i off : Nat} : aFieldAddr E0 56 (ptr i off) 0 = some (ptr i (off + 0)) := fa_eq (by kernel_rfl)
theorem ld37 {i off : Nat} {A : AHeap} : aLoad E0 37 (ptr i off) A = A.cell i off := ld_eq (by kernel_rfl)
theorem ldA29 {i off : Nat} {A : AHeap} : aLoad E0 29 (ptr i off) A = A.cells i off 8 := ldA_eq (by kernel_rfl) (by kernel_rfl)
theorem fa56_2 {i off : Nat} : aFieldAddr E0 56 (ptr i off) 2 = some (ptr i (off + 9)) := fa_eq (by kernel_rfl)
theorem ld32 {i off : Nat} {A : AHeap} : aLoad E0 32 (ptr i off) A = A.cell i off := ld_eq (by kernel_rfl)
theorem st48 {i off : Nat} {A : AHeap} {v : Value} (h : A.own i off) (hv : v.cells = #[v]) (h1 : v.oneCell' = true) : aStore E0 48 (ptr i off) v A = some (A.put i off v) := st_eq (by kernel_rfl) h hv h1
theorem st32 {i off : Nat} {A : AHeap} {v : Value} (h : A.own i off) (hv : v.cells = #[v]) (h1 : v.oneCell' = true) : aStore E0 32 (ptr i off) v A = some (A.put i off v) := st_eq (by kernel_rfl) h hv h1
theorem fa56_4 {i off : Nat} : aFieldAddr E0 56 (ptr i off) 4 = some (ptr i (off + 11)) := fa_eq (by kernel_rfl)
theorem fa61_0 {i off : Nat} : aFieldAddr E0 61 (ptr i off) 0 = some (ptr i (off + 0)) := fa_eq (by kernel_rfl)
theorem ld58 {i off : Nat} {A : AHeap} : aLoad E0 58 (ptr i off) A = A.cell i off := ld_eq (by kernel_rfl)
theorem al64 {A : AHeap} : aAlloc E0 64 A = some (ptr A.next 0, A.push (.cells false 0 3 [(.bool false), (.bool false), (iv 0)] .e)) := al_eq (z := (.agg #[(.bool false), (.bool false), (iv 0)])) (by kernel_rfl)
theorem stA64 {i off : Nat} {A : AHeap} {v : Value} (h : A.owns i off 3) (hv : v.cells.size = 3) (h1 : v.cells.toList.all Value.oneCell' = true) : aStore E0 64 (ptr i off) v A = some (A.puts i off v.cells.toList) := stA_eq (by kernel_rfl) h hv h1
theorem fa64_2 {i off : Nat} : aFieldAddr E0 64 (ptr i off) 2 = some (ptr i (off + 2)) := fa_eq (by kernel_rfl)
theorem ld3 {i off : Nat} {A : AHeap} : aLoad E0 3 (ptr i off) A = A.cell i off := ld_eq (by kernel_rfl)
theorem fa56_3 {i off : Nat} : aFieldAddr E0 56 (ptr i off) 3 = some (ptr i (off + 10)) := fa_eq (by kernel_rfl)
theorem ld34 {i off : Nat} {A : AHeap} : aLoad E0 34 (ptr i off) A = A.cell i off := ld_eq (by kernel_rfl)
theorem st34 {i off : Nat} {A : AHeap} {v : Value} (h : A.own i off) (hv : v.cells = #[v]) (h1 : v.oneCell' = true) : aStore E0 34 (ptr i off) v A = some (A.put i off v) := st_eq (by kernel_rfl) h hv h1
theorem fa64_0 {i off : Nat} : aFieldAddr E0 64 (ptr i off) 0 = some (ptr i (off + 0)) := fa_eq (by kernel_rfl)
theorem ld4 {i off : Nat} {A : AHeap} : aLoad E0 4 (ptr i off) A = A.cell i off := ld_eq (by kernel_rfl)
theorem fa61_1 {i off : Nat} : aFieldAddr E0 61 (ptr i off) 1 = some (ptr i (off + 1)) := fa_eq (by kernel_rfl)
theorem fa64_1 {i off : Nat} : aFieldAddr E0 64 (ptr i off) 1 = some (ptr i (off + 1)) := fa_eq (by kernel_rfl)
theorem al43 {A : AHeap} : aAlloc E0 43 A = some (ptr A.next 0, A.push (.cells false 0 3 [(iv 0), (u 0), (u 0)] .e)) := al_eq (z := (.agg #[(iv 0), (u 0), (u 0)])) (by kernel_rfl)
theorem stA43 {i off : Nat} {A : AHeap} {v : Value} (h : A.owns i off 3) (hv : v.cells.size = 3) (h1 : v.cells.toList.all Value.oneCell' = true) : aStore E0 43 (ptr i off) v A = some (A.puts i off v.cells.toList) := stA_eq (by kernel_rfl) h hv h1
theorem ldA43 {i off : Nat} {A : AHeap} : aLoad E0 43 (ptr i off) A = A.cells i off 3 := ldA_eq (by kernel_rfl) (by kernel_rfl)
theorem ia32 {i off len cap k : Nat} {kd : IntKind} (hk : k < len) : aIndexAddr E0 32 (.slice (some ⟨i, off, none⟩) len cap) (.int kd (k : Int)) = some (ptr i (off + k * 15)) := ia_eq (by kernel_rfl) hk
theorem iau32 {i off len cap k : Nat} (hk : k < len) : aIndexAddr E0 32 (.slice (some ⟨i, off, none⟩) len cap) (u k) = some (ptr i (off + k * 15)) := ia32 hk
theorem iai32 {i off len cap k : Nat} (hk : k < len) : aIndexAddr E0 32 (.slice (some ⟨i, off, none⟩) len cap) (iv (k : Int)) = some (ptr i (off + k * 15)) := ia32 hk
theorem fa45_2 {i off : Nat} : aFieldAddr E0 45 (ptr i off) 2 = some (ptr i (off + 9)) := fa_eq (by kernel_rfl)
theorem fa45_4 {i off : Nat} : aFieldAddr E0 45 (ptr i off) 4 = some (ptr i (off + 13)) := fa_eq (by kernel_rfl)
theorem st3 {i off : Nat} {A : AHeap} {v : Value} (h : A.own i off) (hv : v.cells = #[v]) (h1 : v.oneCell' = true) : aStore E0 3 (ptr i off) v A = some (A.put i off v) := st_eq (by kernel_rfl) h hv h1
theorem fa45_5 {i off : Nat} : aFieldAddr E0 45 (ptr i off) 5 = some (ptr i (off + 14)) := fa_eq (by kernel_rfl)
theorem st4 {i off : Nat} {A : AHeap} {v : Value} (h : A.own i off) (hv : v.cells = #[v]) (h1 : v.oneCell' = true) : aStore E0 4 (ptr i off) v A = some (A.put i off v) := st_eq (by kernel_rfl) h hv h1
theorem mk34 {k k' : IntKind} {l c : Nat} {A : AHeap} (hlc : l ≤ c) (hb : 24 * c ≤ 2 ^ 48) (hc : c ≤ 2 ^ 48) : aMakeSlice E0 34 (.int k (l : Int)) (.int k' (c : Int)) A = some (.slice (some ⟨A.next, 0, none⟩) l c, A.push (.cells false 3 (c * 3) [(iv 0), (iv 0), (iv 0)] .e)) := mk_eq (z := (.agg #[(iv 0), (iv 0), (iv 0)])) (by kernel_rfl) hlc hb hc
theorem mk86 {k k' : IntKind} {l c : Nat} {A : AHeap} (hlc : l ≤ c) (hb : 1 * c ≤ 2 ^ 48) (hc : c ≤ 2 ^ 48) : aMakeSlice E0 86 (.int k (l : Int)) (.int k' (c : Int)) A = some (.slice (some ⟨A.next, 0, none⟩) l c, A.push (.cells false 1 (c * 1) [(.int .u8 0)] .e)) := mk_eq (z := (.int .u8 0)) (by kernel_rfl) hlc hb hc
theorem al76 {A : AHeap} : aAlloc E0 76 A = some (ptr A.next 0, A.push (.cells false 0 1 [(.slice none 0 0)] .e)) := al_eq (z := (.slice none 0 0)) (by kernel_rfl)
theorem ld22 {i off : Nat} {A : AHeap} : aLoad E0 22 (ptr i off) A = A.cell i off := ld_eq (by kernel_rfl)
theorem ld76 {i off : Nat} {A : AHeap} : aLoad E0 76 (ptr i off) A = A.cell i off := ld_eq (by kernel_rfl)
theorem st76 {i off : Nat} {A : AHeap} {v : Value} (h : A.own i off) (hv : v.cells = #[v]) (h1 : v.oneCell' = true) : aStore E0 76 (ptr i off) v A = some (A.put i off v) := st_eq (by kernel_rfl) h hv h1
theorem fa54_2 {i off : Nat} : aFieldAddr E0 54 (ptr i off) 2 = some (ptr i (off + 0)) := fa_eq (by kernel_rfl)
theorem fa88_0 {i off : Nat} : aFieldAddr E0 88 (ptr i off) 0 = some (ptr i (off + 0)) := fa_eq (by kernel_rfl)
theorem ld86 {i off : Nat} {A : AHeap} : aLoad E0 86 (ptr i off) A = A.cell i off := ld_eq (by kernel_rfl)
theorem ia86 {i off len cap k : Nat} {kd : IntKind} (hk : k < len) : aIndexAddr E0 86 (.slice (some ⟨i, off, none⟩) len cap) (.int kd (k : Int)) = some (ptr i (off + k * 1)) := ia_eq (by kernel_rfl) hk
theorem iau86 {i off len cap k : Nat} (hk : k < len) : aIndexAddr E0 86 (.slice (some ⟨i, off, none⟩) len cap) (u k) = some (ptr i (off + k * 1)) := ia86 hk
theorem iai86 {i off len cap k : Nat} (hk : k < len) : aIndexAddr E0 86 (.slice (some ⟨i, off, none⟩) len cap) (iv (k : Int)) = some (ptr i (off + k * 1)) := ia86 hk
theorem st5 {i off : Nat} {A : AHeap} {v : Value} (h : A.own i off) (hv : v.cells = #[v]) (h1 : v.oneCell' = true) : aStore E0 5 (ptr i off) v A = some (A.put i off v) := st_eq (by kernel_rfl) h hv h1
theorem fa120_1 {i off : Nat} : aFieldAddr E0 120 (ptr i off) 1 = some (ptr i (off + 1)) := fa_eq (by kernel_rfl)
theorem ld117 {i off : Nat} {A : AHeap} : aLoad E0 117 (ptr i off) A = A.cell i off := ld_eq (by kernel_rfl)
theorem fa120_0 {i off : Nat} : aFieldAddr E0 120 (ptr i off) 0 = some (ptr i (off + 0)) := fa_eq (by kernel_rfl)
theorem ld70 {i off : Nat} {A : AHeap} : aLoad E0 70 (ptr i off) A = A.cell i off := ld_eq (by kernel_rfl)
theorem al22 {A : AHeap} : aAlloc E0 22 A = some (ptr A.next 0, A.push (.cells false 0 1 [(u 0)] .e)) := al_eq (z := (u 0)) (by kernel_rfl)
theorem st22 {i off : Nat} {A : AHeap} {v : Value} (h : A.own i off) (hv : v.cells = #[v]) (h1 : v.oneCell' = true) : aStore E0 22 (ptr i off) v A = some (A.put i off v) := st_eq (by kernel_rfl) h hv h1
theorem ld5 {i off : Nat} {A : AHeap} : aLoad E0 5 (ptr i off) A = A.cell i off := ld_eq (by kernel_rfl)
end Go.Abs
