import Derived.Test.YtnabebdceaoiiaaGreatDoorL12
import Derived.Test.YtnabebdceaoiiaaGreatDoorChecked
import Derived.Test.YtnabebdceaoiiaaGreatDoorCodeA
namespace Go.Proofs.YtnabebdceaoiiaaGreatDoor
open Go.Ev Go
variable {X : Kx} {K : List Kf} {s : St}
/-! ingot/value.count -/
@[go_sem] def r_value_count_0_o : Ops := [
oo 2 (.box 6 (.t 0)), oo 3 (.box 5 (.t 1)), oo 4 (.asg (ci 0))]
def r_value_count_0 := rg r_value_count_0_o [2, 3]
@[go_sem] theorem r_value_count_0_u : Gr X K s r_value_count_0 r_value_count_0_o [2, 3] := go_region _ _
@[go_sem] def r_value_count_1_o : Ops := [
oo 7 (.fieldA 4 (.t 3)), oo 8 (.load none (.t 7)), oo 9 (.len false (.t 8)), oo 5 (.asg (.t 9)), oo 6 (.asg (.c (.bool true)))]
def r_value_count_1 := rg r_value_count_1_o [2, 5, 6]
@[go_sem] theorem r_value_count_1_u : Gr X K s r_value_count_1 r_value_count_1_o [2, 5, 6] := go_region _ _
@[go_sem] def r_value_count_2_o : Ops := [
oo 10 (.fieldA 0 (.t 2)), oo 11 (.load none (.t 10))]
def r_value_count_2 := rg r_value_count_2_o [2, 5, 6, 11]
@[go_sem] theorem r_value_count_2_u : Gr X K s r_value_count_2 r_value_count_2_o [2, 5, 6, 11] := go_region _ _
@[go_sem] def r_value_count_3_o : Ops := [
oo 13 (.bin .eql (.t 11) (ci 11)), oo 12 (.asg (.t 13))]
def r_value_count_3 := rg r_value_count_3_o [2, 5, 6, 11, 12]
@[go_sem] theorem r_value_count_3_u : Gr X K s r_value_count_3 r_value_count_3_o [2, 5, 6, 11, 12] := go_region _ _
@[go_sem] def r_value_count_4_o : Ops := [
oo 15 (.bin .eql (.t 11) (ci 10)), oo 14 (.asg (.t 15))]
def r_value_count_4 := rg r_value_count_4_o [2, 5, 6, 11, 14]
@[go_sem] theorem r_value_count_4_u : Gr X K s r_value_count_4 r_value_count_4_o [2, 5, 6, 11, 14] := go_region _ _
@[go_sem] def r_value_count_5_o : Ops := [
oo 17 (.bin .eql (.t 11) (ci 12)), oo 16 (.asg (.t 17))]
def r_value_count_5 := rg r_value_count_5_o [2, 5, 6, 11, 16]
@[go_sem] theorem r_value_count_5_u : Gr X K s r_value_count_5 r_value_count_5_o [2, 5, 6, 11, 16] := go_region _ _
@[go_sem] def r_value_count_6_o : Ops := [
oo 19 (.bin .eql (.t 11) (ci 13)), oo 18 (.asg (.t 19))]
def r_value_count_6 := rg r_value_count_6_o [5, 6, 18]
@[go_sem] theorem r_value_count_6_u : Gr X K s r_value_count_6 r_value_count_6_o [5, 6, 18] := go_region _ _
@[go_sem] def r_value_count_7_o : Ops := [
oo 20 (.mv (.t 5)), oo 21 (.bin .rem (.t 20) (ci 2)), oo 22 (.bin .eql (.t 21) (ci 0)), oo 23 (.mv (.t 5)), oo 24 (.bin .quo (.t 23) (ci 2)), oo 6 (.asg (.t 22)), oo 5 (.asg (.t 24))]
def r_value_count_7 := rg r_value_count_7_o [5, 6]
@[go_sem] theorem r_value_count_7_u : Gr X K s r_value_count_7 r_value_count_7_o [5, 6] := go_region _ _
@[go_sem] def r_value_count_8_o : Ops := [
oo 25 (.mv (.t 6)), oo 26 (.mv (.t 25)), og 27 26 true (.mv (.t 5)), og 28 26 true (.bin .gtr (.t 27) (ci 16384)), oo 29 (.pick (.t 26) (.t 28) (.c (.bool false)))]
def r_value_count_8 := rg r_value_count_8_o [6, 29]
@[go_sem] theorem r_value_count_8_u : Gr X K s r_value_count_8 r_value_count_8_o [6, 29] := go_region _ _
@[go_sem] def r_value_count_9_o : Ops := [
oo 4 (.asg (ci 4))]
def r_value_count_9 := rg r_value_count_9_o [4]
@[go_sem] theorem r_value_count_9_u : Gr X K s r_value_count_9 r_value_count_9_o [4] := go_region _ _
@[go_sem] def r_value_count_10_o : Ops := [
oo 30 (.mv (.t 5)), oo 31 (.fieldA 2 (.t 2)), oo 32 (.load none (.t 31)), oo 33 (.len false (.t 32)), oo 34 (.bin .eql (.t 30) (.t 33)), oo 6 (.asg (.t 34))]
def r_value_count_10 := rg r_value_count_10_o [6]
@[go_sem] theorem r_value_count_10_u : Gr X K s r_value_count_10 r_value_count_10_o [6] := go_region _ _
@[go_sem] def r_value_count_11_o : Ops := [
oo 35 (.mv (.t 5)), oo 36 (.bin .eql (.t 35) (ci 1)), oo 6 (.asg (.t 36))]
def r_value_count_11 := rg r_value_count_11_o [6]
@[go_sem] theorem r_value_count_11_u : Gr X K s r_value_count_11 r_value_count_11_o [6] := go_region _ _
@[go_sem] def r_value_count_12_o : Ops := [
oo 37 (.mv (.t 6)), oo 38 (.un .not (.t 37))]
def r_value_count_12 := rg r_value_count_12_o [38]
@[go_sem] theorem r_value_count_12_u : Gr X K s r_value_count_12 r_value_count_12_o [38] := go_region _ _
@[go_sem] def r_value_count_13_o : Ops := [
oo 4 (.asg (ci 1))]
def r_value_count_13 := rg r_value_count_13_o [4]
@[go_sem] theorem r_value_count_13_u : Gr X K s r_value_count_13 r_value_count_13_o [4] := go_region _ _
@[go_sem] def r_value_count_14_o : Ops := [
oo 4 (.asg (ci 0))]
def r_value_count_14 := rg r_value_count_14_o [4]
@[go_sem] theorem r_value_count_14_u : Gr X K s r_value_count_14 r_value_count_14_o [4] := go_region _ _
def c_value_count : ICode := (.seq r_value_count_0 (.seq r_value_count_1 (.seq (.seq r_value_count_2 (.block 0 (.seq (.block 4 (.seq (.block 3 (.seq (.block 2 (.seq (.block 1 (.seq (.seq (.seq r_value_count_3 (.cond (.t 12) (.exit 1) .skip)) (.seq (.seq r_value_count_4 (.cond (.t 14) (.exit 2) .skip)) (.seq (.seq r_value_count_5 (.cond (.t 16) (.exit 3) .skip)) (.seq r_value_count_6 (.cond (.t 18) (.exit 4) .skip))))) (.exit 0))) r_value_count_7)) (.seq (.seq r_value_count_8 (.cond (.t 29) (.seq r_value_count_9 .ret) .skip)) (.exit 0)))) (.seq r_value_count_10 (.exit 0)))) (.seq r_value_count_11 (.exit 0))))) (.seq r_value_count_12 (.cond (.t 38) (.seq r_value_count_13 .ret) (.seq r_value_count_14 .ret))))))
def i_value_count : IFunc := ⟨2, [.t 4], c_value_count⟩
def a_value_count : Advice := ⟨[], [(14, [4]), (13, [4]), (12, [38]), (11, [6]), (10, [6]), (9, [4]), (8, [6, 29]), (7, [5, 6]), (6, [5, 6, 18]), (5, [2, 5, 6, 11, 16]), (4, [2, 5, 6, 11, 14]), (3, [2, 5, 6, 11, 12]), (2, [2, 5, 6, 11]), (1, [2, 5, 6]), (0, [2, 3])], [], [], []⟩
/-! ingot/value.Signs -/
@[go_sem] def r_value_Signs_0_o : Ops := [
oo 2 (.asg (ci 0))]
def r_value_Signs_0 := rg r_value_Signs_0_o [0]
@[go_sem] theorem r_value_Signs_0_u : Gr X K s r_value_Signs_0 r_value_Signs_0_o [0] := go_region _ _
@[go_sem] def r_value_Signs_1_o : Ops := [
oo 3 (.asg (ci 0))]
def r_value_Signs_1 := rg r_value_Signs_1_o [0, 3]
@[go_sem] theorem r_value_Signs_1_u : Gr X K s r_value_Signs_1 r_value_Signs_1_o [0, 3] := go_region _ _
@[go_sem] def r_value_Signs_2_o : Ops := [
oo 6 (.mv (.t 0)), oo 7 (.len false (.t 6)), oo 8 (.mv (ci 0))]
def r_value_Signs_2 := rg r_value_Signs_2_o [3, 6, 7, 8]
@[go_sem] theorem r_value_Signs_2_u : Gr X K s r_value_Signs_2 r_value_Signs_2_o [3, 6, 7, 8] := go_region _ _
@[go_sem] def r_value_Signs_3_o : Ops := [
oo 9 (.bin .lss (.t 8) (.t 7))]
def r_value_Signs_3 := rg r_value_Signs_3_o [3, 6, 7, 8, 9]
@[go_sem] theorem r_value_Signs_3_u : Gr X K s r_value_Signs_3 r_value_Signs_3_o [3, 6, 7, 8, 9] := go_region _ _
@[go_sem] def r_value_Signs_4_o : Ops := [
oo 10 (.idxA 1 (.t 6) (.t 8)), oo 11 (.load none (.t 10)), oo 5 (.asg (.t 11))]
def r_value_Signs_4 := rg r_value_Signs_4_o [3, 5, 6, 7, 8]
@[go_sem] theorem r_value_Signs_4_u : Gr X K s r_value_Signs_4 r_value_Signs_4_o [3, 5, 6, 7, 8] := go_region _ _
@[go_sem] def r_value_Signs_5_o : Ops := [
oo 12 (.mv (.t 5)), oo 13 (.bin .shr (.t 12) (.c (.int .u64 6))), oo 14 (.bin .neq (.t 13) (.c (.int .u8 2)))]
def r_value_Signs_5 := rg r_value_Signs_5_o [3, 6, 7, 8, 14]
@[go_sem] theorem r_value_Signs_5_u : Gr X K s r_value_Signs_5 r_value_Signs_5_o [3, 6, 7, 8, 14] := go_region _ _
@[go_sem] def r_value_Signs_6_o : Ops := [
oo 15 (.mv (.t 3)), oo 16 (.bin .add (.t 15) (ci 1)), oo 3 (.asg (.t 16))]
def r_value_Signs_6 := rg r_value_Signs_6_o [3, 6, 7, 8]
@[go_sem] theorem r_value_Signs_6_u : Gr X K s r_value_Signs_6 r_value_Signs_6_o [3, 6, 7, 8] := go_region _ _
@[go_sem] def r_value_Signs_7_o : Ops := [
oo 17 (.bin .add (.t 8) (ci 1)), oo 8 (.mv (.t 17))]
def r_value_Signs_7 := rg r_value_Signs_7_o [3, 6, 7, 8]
@[go_sem] theorem r_value_Signs_7_u : Gr X K s r_value_Signs_7 r_value_Signs_7_o [3, 6, 7, 8] := go_region _ _
def b_value_Signs_8 : ICode := (.seq r_value_Signs_3 (.seq (.cond (.t 9) .skip (.exit 0)) (.seq (.block 1 (.seq r_value_Signs_4 (.seq r_value_Signs_5 (.cond (.t 14) r_value_Signs_6 .skip)))) r_value_Signs_7)))
@[go_sem] theorem b_value_Signs_8_u : Gn X K s b_value_Signs_8 (.seq r_value_Signs_3 (.seq (.cond (.t 9) .skip (.exit 0)) (.seq (.block 1 (.seq r_value_Signs_4 (.seq r_value_Signs_5 (.cond (.t 14) r_value_Signs_6 .skip)))) r_value_Signs_7))) := rfl
@[go_sem] def r_value_Signs_9_o : Ops := [
oo 18 (.mv (.t 3)), oo 2 (.asg (.t 18))]
def r_value_Signs_9 := rg r_value_Signs_9_o [2]
@[go_sem] theorem r_value_Signs_9_u : Gr X K s r_value_Signs_9 r_value_Signs_9_o [2] := go_region _ _
def c_value_Signs : ICode := (.seq r_value_Signs_0 (.seq r_value_Signs_1 (.seq (.seq r_value_Signs_2 (.block 0 (.loop b_value_Signs_8))) (.seq r_value_Signs_9 .ret))))
def i_value_Signs : IFunc := ⟨1, [.t 2], c_value_Signs⟩
def a_value_Signs : Advice := ⟨[], [(8, [2]), (7, [3, 6, 7, 8]), (6, [3, 6, 7, 8]), (5, [3, 6, 7, 8, 14]), (4, [3, 5, 6, 7, 8]), (3, [3, 6, 7, 8, 9]), (2, [3, 6, 7, 8]), (1, [0, 3]), (0, [0])], [], [], []⟩
/-! ingot/value.long -/
@[go_sem] def r_value_long_0_o : Ops := [
oo 2 (.box 6 (.t 0)), oo 3 (.box 5 (.t 1)), oo 4 (.asg (.c (.bool false)))]
def r_value_long_0 := rg r_value_long_0_o [2, 3]
@[go_sem] theorem r_value_long_0_u : Gr X K s r_value_long_0 r_value_long_0_o [2, 3] := go_region _ _
@[go_sem] def r_value_long_1_o : Ops := [
oo 5 (.fieldA 0 (.t 2)), oo 6 (.load none (.t 5))]
def r_value_long_1 := rg r_value_long_1_o [2, 3, 6]
@[go_sem] theorem r_value_long_1_u : Gr X K s r_value_long_1 r_value_long_1_o [2, 3, 6] := go_region _ _
@[go_sem] def r_value_long_2_o : Ops := [
oo 8 (.bin .eql (.t 6) (ci 16)), oo 7 (.asg (.t 8))]
def r_value_long_2 := rg r_value_long_2_o [2, 3, 6, 7]
@[go_sem] theorem r_value_long_2_u : Gr X K s r_value_long_2 r_value_long_2_o [2, 3, 6, 7] := go_region _ _
@[go_sem] def r_value_long_3_o : Ops := [
oo 9 (.bin .eql (.t 6) (ci 17)), oo 7 (.asg (.t 9))]
def r_value_long_3 := rg r_value_long_3_o [2, 3, 6, 7]
@[go_sem] theorem r_value_long_3_u : Gr X K s r_value_long_3 r_value_long_3_o [2, 3, 6, 7] := go_region _ _
@[go_sem] def r_value_long_4_o : Ops := [
oo 11 (.bin .eql (.t 6) (ci 7)), oo 10 (.asg (.t 11))]
def r_value_long_4 := rg r_value_long_4_o [3, 6, 10]
@[go_sem] theorem r_value_long_4_u : Gr X K s r_value_long_4 r_value_long_4_o [3, 6, 10] := go_region _ _
@[go_sem] def r_value_long_5_o : Ops := [
oo 12 (.bin .eql (.t 6) (ci 8)), oo 10 (.asg (.t 12))]
def r_value_long_5 := rg r_value_long_5_o [3, 10]
@[go_sem] theorem r_value_long_5_u : Gr X K s r_value_long_5 r_value_long_5_o [3, 10] := go_region _ _
@[go_sem] def r_value_long_6_o : Ops := [
oo 13 (.fieldA 3 (.t 3)), oo 14 (.load none (.t 13)), oo 15 (.call false n_value_Signs [(.t 14)]), oo 16 (.fieldA 3 (.t 2)), oo 17 (.load none (.t 16)), oo 18 (.bin .gtr (.t 15) (.t 17))]
def r_value_long_6_n : List (Nat × Nat) := [(0, 3), (1, 3), (2, 3), (0, 4), (1, 4), (2, 4)]
def r_value_long_6 : ICode := .region r_value_long_6_o r_value_long_6_n [3, 18]
@[go_sem] theorem r_value_long_6_u : go X (.c r_value_long_6 :: K) s = goRU X [] r_value_long_6_n r_value_long_6_o [3, 18] K s := go_regionU' _ _ _ _
@[go_sem] def r_value_long_7_o : Ops := [
oo 4 (.asg (.c (.bool true)))]
def r_value_long_7 := rg r_value_long_7_o [4]
@[go_sem] theorem r_value_long_7_u : Gr X K s r_value_long_7 r_value_long_7_o [4] := go_region _ _
@[go_sem] def r_value_long_8_o : Ops := [
oo 19 (.fieldA 3 (.t 3)), oo 20 (.load none (.t 19)), oo 21 (.len false (.t 20)), oo 22 (.bin .gtr (.t 21) (ci 4096)), oo 4 (.asg (.t 22))]
def r_value_long_8 := rg r_value_long_8_o [4]
@[go_sem] theorem r_value_long_8_u : Gr X K s r_value_long_8 r_value_long_8_o [4] := go_region _ _
@[go_sem] def r_value_long_9_o : Ops := [
oo 4 (.asg (.c (.bool false)))]
def r_value_long_9 := rg r_value_long_9_o [4]
@[go_sem] theorem r_value_long_9_u : Gr X K s r_value_long_9 r_value_long_9_o [4] := go_region _ _
def c_value_long : ICode := (.seq r_value_long_0 (.seq (.seq r_value_long_1 (.block 0 (.seq (.block 2 (.seq (.block 1 (.seq (.seq (.seq (.seq r_value_long_2 (.cond (.t 7) .skip r_value_long_3)) (.cond (.t 7) (.exit 1) .skip)) (.seq (.seq r_value_long_4 (.cond (.t 10) .skip r_value_long_5)) (.cond (.t 10) (.exit 2) .skip))) (.exit 0))) (.seq r_value_long_6 (.cond (.t 18) (.seq r_value_long_7 .ret) .skip)))) (.seq (.seq r_value_long_8 .ret) (.exit 0))))) (.seq r_value_long_9 .ret)))
def i_value_long : IFunc := ⟨2, [.t 4], c_value_long⟩
def a_value_long : Advice := ⟨[], [(9, [4]), (8, [4]), (7, [4]), (6, [3, 18]), (5, [3, 10]), (4, [3, 6, 10]), (3, [2, 3, 6, 7]), (2, [2, 3, 6, 7]), (1, [2, 3, 6]), (0, [2, 3])], [], [], []⟩
/-! ingot/stamp.Check -/
@[go_sem] def r_stamp_Check_0_o : Ops := [
oo 4 (.asg (.c (.bool false)))]
def r_stamp_Check_0 := rg r_stamp_Check_0_o [0, 1]
@[go_sem] theorem r_stamp_Check_0_u : Gr X K s r_stamp_Check_0 r_stamp_Check_0_o [0, 1] := go_region _ _
@[go_sem] def r_stamp_Check_1_o : Ops := [
oo 5 (.mv (.t 0)), oo 6 (.bin .geq (.t 5) (ci (-1099511627776))), oo 7 (.mv (.t 6)), og 8 7 true (.mv (.t 0)), og 9 7 true (.bin .leq (.t 8) (ci 1099511627776)), oo 10 (.pick (.t 7) (.t 9) (.c (.bool false))), oo 11 (.mv (.t 10)), og 12 11 true (.mv (.t 1)), og 13 11 true (.bin .geq (.t 12) (ci 0)), oo 14 (.pick (.t 11) (.t 13) (.c (.bool false))), oo 15 (.mv (.t 14)), og 16 15 true (.mv (.t 1)), og 17 15 true (.bin .leq (.t 16) (ci 999999999)), oo 18 (.pick (.t 15) (.t 17) (.c (.bool false))), oo 4 (.asg (.t 18))]
def r_stamp_Check_1 := rg r_stamp_Check_1_o [4]
@[go_sem] theorem r_stamp_Check_1_u : Gr X K s r_stamp_Check_1 r_stamp_Check_1_o [4] := go_region _ _
def c_stamp_Check : ICode := (.seq r_stamp_Check_0 (.seq r_stamp_Check_1 .ret))
def i_stamp_Check : IFunc := ⟨2, [.t 4], c_stamp_Check⟩
def a_stamp_Check : Advice := ⟨[], [(1, [4]), (0, [0, 1])], [], [], []⟩
/-! ingot/deci.size -/
@[go_sem] def r_deci_size_0_o : Ops := [
oo 2 (.asg (.c (.int .u64 0)))]
def r_deci_size_0 := rg r_deci_size_0_o [0]
@[go_sem] theorem r_deci_size_0_u : Gr X K s r_deci_size_0 r_deci_size_0_o [0] := go_region _ _
@[go_sem] def r_deci_size_1_o : Ops := [
oo 3 (.mv (.t 0)), oo 4 (.bin .lss (.t 3) (ci 0))]
def r_deci_size_1 := rg r_deci_size_1_o [0, 4]
@[go_sem] theorem r_deci_size_1_u : Gr X K s r_deci_size_1 r_deci_size_1_o [0, 4] := go_region _ _
@[go_sem] def r_deci_size_2_o : Ops := [
oo 5 (.mv (.t 0)), oo 6 (.cvInt .u64 (.t 5)), oo 7 (.un .neg (.t 6)), oo 2 (.asg (.t 7))]
def r_deci_size_2 := rg r_deci_size_2_o [2]
@[go_sem] theorem r_deci_size_2_u : Gr X K s r_deci_size_2 r_deci_size_2_o [2] := go_region _ _
@[go_sem] def r_deci_size_3_o : Ops := [
oo 8 (.mv (.t 0)), oo 9 (.cvInt .u64 (.t 8)), oo 2 (.asg (.t 9))]
def r_deci_size_3 := rg r_deci_size_3_o [2]
@[go_sem] theorem r_deci_size_3_u : Gr X K s r_deci_size_3 r_deci_size_3_o [2] := go_region _ _
def c_deci_size : ICode := (.seq r_deci_size_0 (.seq r_deci_size_1 (.cond (.t 4) (.seq r_deci_size_2 .ret) (.seq r_deci_size_3 .ret))))
def i_deci_size : IFunc := ⟨1, [.t 2], c_deci_size⟩
def a_deci_size : Advice := ⟨[], [(3, [2]), (2, [2]), (1, [0, 4]), (0, [0])], [], [], []⟩
/-! ingot/deci.Digits -/
@[go_sem] def r_deci_Digits_0_o : Ops := [
oo 2 (.asg (ci 0))]
def r_deci_Digits_0 := rg r_deci_Digits_0_o [0]
@[go_sem] theorem r_deci_Digits_0_u : Gr X K s r_deci_Digits_0 r_deci_Digits_0_o [0] := go_region _ _
@[go_sem] def r_deci_Digits_1_o : Ops := [
oo 3 (.asg (ci 1))]
def r_deci_Digits_1 := rg r_deci_Digits_1_o [0, 3]
@[go_sem] theorem r_deci_Digits_1_u : Gr X K s r_deci_Digits_1 r_deci_Digits_1_o [0, 3] := go_region _ _
@[go_sem] def r_deci_Digits_2_o : Ops := [
oo 5 (.mv (.t 0)), oo 6 (.call false n_deci_size [(.t 5)]), oo 4 (.asg (.t 6))]
def r_deci_Digits_2 := rg r_deci_Digits_2_o [3, 4]
@[go_sem] theorem r_deci_Digits_2_u : Gr X K s r_deci_Digits_2 r_deci_Digits_2_o [3, 4] := go_region _ _
@[go_sem] def r_deci_Digits_3_o : Ops := [
oo 8 (.mv (.t 4)), oo 9 (.bin .geq (.t 8) (.c (.int .u64 10000000000000000))), oo 7 (.asg (.t 9))]
def r_deci_Digits_3 := rg r_deci_Digits_3_o [3, 4, 7]
@[go_sem] theorem r_deci_Digits_3_u : Gr X K s r_deci_Digits_3 r_deci_Digits_3_o [3, 4, 7] := go_region _ _
@[go_sem] def r_deci_Digits_4_o : Ops := [
oo 11 (.mv (.t 4)), oo 12 (.bin .geq (.t 11) (.c (.int .u64 100000000))), oo 10 (.asg (.t 12))]
def r_deci_Digits_4 := rg r_deci_Digits_4_o [3, 4, 10]
@[go_sem] theorem r_deci_Digits_4_u : Gr X K s r_deci_Digits_4 r_deci_Digits_4_o [3, 4, 10] := go_region _ _
@[go_sem] def r_deci_Digits_5_o : Ops := [
oo 13 (.mv (.t 3)), oo 14 (.bin .add (.t 13) (ci 8)), oo 3 (.asg (.t 14))]
def r_deci_Digits_5 := rg r_deci_Digits_5_o [3, 4]
@[go_sem] theorem r_deci_Digits_5_u : Gr X K s r_deci_Digits_5 r_deci_Digits_5_o [3, 4] := go_region _ _
@[go_sem] def r_deci_Digits_6_o : Ops := [
oo 15 (.mv (.t 4)), oo 16 (.bin .quo (.t 15) (.c (.int .u64 100000000))), oo 4 (.asg (.t 16))]
def r_deci_Digits_6 := rg r_deci_Digits_6_o [3, 4]
@[go_sem] theorem r_deci_Digits_6_u : Gr X K s r_deci_Digits_6 r_deci_Digits_6_o [3, 4] := go_region _ _
@[go_sem] def r_deci_Digits_7_o : Ops := [
oo 17 (.mv (.t 3)), oo 18 (.bin .add (.t 17) (ci 8)), oo 3 (.asg (.t 18))]
def r_deci_Digits_7 := rg r_deci_Digits_7_o [3, 4]
@[go_sem] theorem r_deci_Digits_7_u : Gr X K s r_deci_Digits_7 r_deci_Digits_7_o [3, 4] := go_region _ _
@[go_sem] def r_deci_Digits_8_o : Ops := [
oo 19 (.mv (.t 4)), oo 20 (.bin .quo (.t 19) (.c (.int .u64 100000000))), oo 4 (.asg (.t 20))]
def r_deci_Digits_8 := rg r_deci_Digits_8_o [3, 4]
@[go_sem] theorem r_deci_Digits_8_u : Gr X K s r_deci_Digits_8 r_deci_Digits_8_o [3, 4] := go_region _ _
@[go_sem] def r_deci_Digits_9_o : Ops := [
oo 21 (.mv (.t 4)), oo 22 (.bin .geq (.t 21) (.c (.int .u64 10)))]
def r_deci_Digits_9 := rg r_deci_Digits_9_o [3, 4, 22]
@[go_sem] theorem r_deci_Digits_9_u : Gr X K s r_deci_Digits_9 r_deci_Digits_9_o [3, 4, 22] := go_region _ _
@[go_sem] def r_deci_Digits_10_o : Ops := [
oo 23 (.mv (.t 3)), oo 24 (.bin .add (.t 23) (ci 1)), oo 3 (.asg (.t 24))]
def r_deci_Digits_10 := rg r_deci_Digits_10_o [3, 4]
@[go_sem] theorem r_deci_Digits_10_u : Gr X K s r_deci_Digits_10 r_deci_Digits_10_o [3, 4] := go_region _ _
@[go_sem] def r_deci_Digits_11_o : Ops := [
oo 25 (.mv (.t 4)), oo 26 (.bin .quo (.t 25) (.c (.int .u64 10))), oo 4 (.asg (.t 26))]
def r_deci_Digits_11 := rg r_deci_Digits_11_o [3, 4]
@[go_sem] theorem r_deci_Digits_11_u : Gr X K s r_deci_Digits_11 r_deci_Digits_11_o [3, 4] := go_region _ _
def b_deci_Digits_12 : ICode := (.seq (.seq r_deci_Digits_9 (.cond (.t 22) .skip (.exit 4))) (.block 5 (.seq r_deci_Digits_10 r_deci_Digits_11)))
@[go_sem] theorem b_deci_Digits_12_u : Gn X K s b_deci_Digits_12 (.seq (.seq r_deci_Digits_9 (.cond (.t 22) .skip (.exit 4))) (.block 5 (.seq r_deci_Digits_10 r_deci_Digits_11))) := rfl
@[go_sem] def r_deci_Digits_13_o : Ops := [
oo 27 (.mv (.t 3)), oo 2 (.asg (.t 27))]
def r_deci_Digits_13 := rg r_deci_Digits_13_o [2]
@[go_sem] theorem r_deci_Digits_13_u : Gr X K s r_deci_Digits_13 r_deci_Digits_13_o [2] := go_region _ _
def c_deci_Digits : ICode := (.seq r_deci_Digits_0 (.seq r_deci_Digits_1 (.seq (.seq r_deci_Digits_2 (.block 0 (.seq (.block 3 (.seq (.block 2 (.seq (.block 1 (.seq (.seq (.seq r_deci_Digits_3 (.cond (.t 7) (.exit 1) .skip)) (.seq r_deci_Digits_4 (.cond (.t 10) (.exit 2) .skip))) (.exit 3))) (.seq r_deci_Digits_5 r_deci_Digits_6))) (.seq r_deci_Digits_7 r_deci_Digits_8))) (.seq (.block 4 (.loop b_deci_Digits_12)) (.exit 0))))) (.seq r_deci_Digits_13 .ret))))
def i_deci_Digits : IFunc := ⟨1, [.t 2], c_deci_Digits⟩
def a_deci_Digits : Advice := ⟨[], [(12, [2]), (11, [3, 4]), (10, [3, 4]), (9, [3, 4, 22]), (8, [3, 4]), (7, [3, 4]), (6, [3, 4]), (5, [3, 4]), (4, [3, 4, 10]), (3, [3, 4, 7]), (2, [3, 4]), (1, [0, 3]), (0, [0])], [], [], []⟩
/-! ingot/value.wide -/
@[go_sem] def r_value_wide_0_o : Ops := [
oo 4 (.asg (.c (.bool false)))]
def r_value_wide_0 := rg r_value_wide_0_o [0, 1]
@[go_sem] theorem r_value_wide_0_u : Gr X K s r_value_wide_0 r_value_wide_0_o [0, 1] := go_region _ _
@[go_sem] def r_value_wide_1_o : Ops := [
oo 5 (.mv (.t 0)), oo 6 (.mv (.t 1)), oo 7 (.bin .sub (.t 6) (ci 1)), oo 8 (.bin .shl (ci (-1)) (.t 7)), oo 9 (.bin .geq (.t 5) (.t 8)), oo 10 (.mv (.t 9)), og 11 10 true (.mv (.t 0)), og 12 10 true (.mv (.t 1)), og 13 10 true (.bin .sub (.t 12) (ci 1)), og 14 10 true (.bin .shl (ci 1) (.t 13)), og 15 10 true (.bin .sub (.t 14) (ci 1)), og 16 10 true (.bin .leq (.t 11) (.t 15)), oo 17 (.pick (.t 10) (.t 16) (.c (.bool false))), oo 4 (.asg (.t 17))]
def r_value_wide_1 := rg r_value_wide_1_o [4]
@[go_sem] theorem r_value_wide_1_u : Gr X K s r_value_wide_1 r_value_wide_1_o [4] := go_region _ _
def c_value_wide : ICode := (.seq r_value_wide_0 (.seq r_value_wide_1 .ret))
def i_value_wide : IFunc := ⟨2, [.t 4], c_value_wide⟩
def a_value_wide : Advice := ⟨[], [(1, [4]), (0, [0, 1])], [], [], []⟩
/-! ingot/value.number -/
@[go_sem] def r_value_number_0_o : Ops := [
oo 2 (.box 6 (.t 0)), oo 3 (.box 5 (.t 1)), oo 4 (.asg (.c (.bool false)))]
def r_value_number_0 := rg r_value_number_0_o [2, 3]
@[go_sem] theorem r_value_number_0_u : Gr X K s r_value_number_0 r_value_number_0_o [2, 3] := go_region _ _
@[go_sem] def r_value_number_1_o : Ops := [
oo 5 (.fieldA 0 (.t 2)), oo 6 (.load none (.t 5))]
def r_value_number_1 := rg r_value_number_1_o [2, 3, 6]
@[go_sem] theorem r_value_number_1_u : Gr X K s r_value_number_1 r_value_number_1_o [2, 3, 6] := go_region _ _
@[go_sem] def r_value_number_2_o : Ops := [
oo 8 (.bin .eql (.t 6) (ci 0)), oo 7 (.asg (.t 8))]
def r_value_number_2 := rg r_value_number_2_o [2, 3, 6, 7]
@[go_sem] theorem r_value_number_2_u : Gr X K s r_value_number_2 r_value_number_2_o [2, 3, 6, 7] := go_region _ _
@[go_sem] def r_value_number_3_o : Ops := [
oo 9 (.fieldA 1 (.t 3)), oo 10 (.load none (.t 9)), oo 11 (.bin .eql (.t 10) (ci 0)), oo 12 (.mv (.t 11)), og 13 12 false (.fieldA 1 (.t 3)), og 14 12 false (.load none (.t 13)), og 15 12 false (.bin .eql (.t 14) (ci 1)), oo 16 (.pick (.t 12) (.c (.bool true)) (.t 15)), oo 4 (.asg (.t 16))]
def r_value_number_3 := rg r_value_number_3_o [4]
@[go_sem] theorem r_value_number_3_u : Gr X K s r_value_number_3 r_value_number_3_o [4] := go_region _ _
@[go_sem] def r_value_number_4_o : Ops := [
oo 18 (.bin .eql (.t 6) (ci 1)), oo 17 (.asg (.t 18))]
def r_value_number_4 := rg r_value_number_4_o [2, 3, 6, 17]
@[go_sem] theorem r_value_number_4_u : Gr X K s r_value_number_4 r_value_number_4_o [2, 3, 6, 17] := go_region _ _
@[go_sem] def r_value_number_5_o : Ops := [
oo 19 (.fieldA 1 (.t 3)), oo 20 (.load none (.t 19)), oo 21 (.call false n_value_wide [(.t 20), (ci 8)]), oo 4 (.asg (.t 21))]
def r_value_number_5 := rg r_value_number_5_o [4]
@[go_sem] theorem r_value_number_5_u : Gr X K s r_value_number_5 r_value_number_5_o [4] := go_region _ _
@[go_sem] def r_value_number_6_o : Ops := [
oo 23 (.bin .eql (.t 6) (ci 2)), oo 22 (.asg (.t 23))]
def r_value_number_6 := rg r_value_number_6_o [2, 3, 6, 22]
@[go_sem] theorem r_value_number_6_u : Gr X K s r_value_number_6 r_value_number_6_o [2, 3, 6, 22] := go_region _ _
@[go_sem] def r_value_number_7_o : Ops := [
oo 24 (.fieldA 1 (.t 3)), oo 25 (.load none (.t 24)), oo 26 (.call false n_value_wide [(.t 25), (ci 16)]), oo 4 (.asg (.t 26))]
def r_value_number_7 := rg r_value_number_7_o [4]
@[go_sem] theorem r_value_number_7_u : Gr X K s r_value_number_7 r_value_number_7_o [4] := go_region _ _
@[go_sem] def r_value_number_8_o : Ops := [
oo 28 (.bin .eql (.t 6) (ci 3)), oo 27 (.asg (.t 28))]
def r_value_number_8 := rg r_value_number_8_o [2, 3, 6, 27]
@[go_sem] theorem r_value_number_8_u : Gr X K s r_value_number_8 r_value_number_8_o [2, 3, 6, 27] := go_region _ _
@[go_sem] def r_value_number_9_o : Ops := [
oo 29 (.bin .eql (.t 6) (ci 15)), oo 27 (.asg (.t 29))]
def r_value_number_9 := rg r_value_number_9_o [2, 3, 6, 27]
@[go_sem] theorem r_value_number_9_u : Gr X K s r_value_number_9 r_value_number_9_o [2, 3, 6, 27] := go_region _ _
@[go_sem] def r_value_number_10_o : Ops := [
oo 30 (.fieldA 1 (.t 3)), oo 31 (.load none (.t 30)), oo 32 (.call false n_value_wide [(.t 31), (ci 32)]), oo 4 (.asg (.t 32))]
def r_value_number_10 := rg r_value_number_10_o [4]
@[go_sem] theorem r_value_number_10_u : Gr X K s r_value_number_10 r_value_number_10_o [4] := go_region _ _
@[go_sem] def r_value_number_11_o : Ops := [
oo 34 (.bin .eql (.t 6) (ci 4)), oo 33 (.asg (.t 34))]
def r_value_number_11 := rg r_value_number_11_o [2, 3, 6, 33]
@[go_sem] theorem r_value_number_11_u : Gr X K s r_value_number_11 r_value_number_11_o [2, 3, 6, 33] := go_region _ _
@[go_sem] def r_value_number_12_o : Ops := [
oo 4 (.asg (.c (.bool true)))]
def r_value_number_12 := rg r_value_number_12_o [4]
@[go_sem] theorem r_value_number_12_u : Gr X K s r_value_number_12 r_value_number_12_o [4] := go_region _ _
@[go_sem] def r_value_number_13_o : Ops := [
oo 36 (.bin .eql (.t 6) (ci 14)), oo 35 (.asg (.t 36))]
def r_value_number_13 := rg r_value_number_13_o [2, 3, 6, 35]
@[go_sem] theorem r_value_number_13_u : Gr X K s r_value_number_13 r_value_number_13_o [2, 3, 6, 35] := go_region _ _
@[go_sem] def r_value_number_14_o : Ops := [
oo 37 (.fieldA 1 (.t 3)), oo 38 (.load none (.t 37)), oo 39 (.call false n_deci_Digits [(.t 38)]), oo 40 (.fieldA 4 (.t 2)), oo 41 (.load none (.t 40)), oo 42 (.bin .leq (.t 39) (.t 41)), oo 4 (.asg (.t 42))]
def r_value_number_14_n : List (Nat × Nat) := [(0, 3), (1, 3), (2, 3), (0, 4), (1, 4), (2, 4)]
def r_value_number_14 : ICode := .region r_value_number_14_o r_value_number_14_n [4]
@[go_sem] theorem r_value_number_14_u : go X (.c r_value_number_14 :: K) s = goRU X [] r_value_number_14_n r_value_number_14_o [4] K s := go_regionU' _ _ _ _
@[go_sem] def r_value_number_15_o : Ops := [
oo 44 (.bin .eql (.t 6) (ci 9)), oo 43 (.asg (.t 44))]
def r_value_number_15 := rg r_value_number_15_o [2, 3, 6, 43]
@[go_sem] theorem r_value_number_15_u : Gr X K s r_value_number_15 r_value_number_15_o [2, 3, 6, 43] := go_region _ _
@[go_sem] def r_value_number_16_o : Ops := [
oo 45 (.fieldA 1 (.t 3)), oo 46 (.load none (.t 45)), oo 47 (.fieldA 2 (.t 3)), oo 48 (.load none (.t 47)), oo 49 (.call false n_stamp_Check [(.t 46), (.t 48)]), oo 4 (.asg (.t 49))]
def r_value_number_16 := rg r_value_number_16_o [4]
@[go_sem] theorem r_value_number_16_u : Gr X K s r_value_number_16 r_value_number_16_o [4] := go_region _ _
@[go_sem] def r_value_number_17_o : Ops := [
oo 51 (.bin .eql (.t 6) (ci 13)), oo 50 (.asg (.t 51))]
def r_value_number_17 := rg r_value_number_17_o [2, 3, 50]
@[go_sem] theorem r_value_number_17_u : Gr X K s r_value_number_17 r_value_number_17_o [2, 3, 50] := go_region _ _
@[go_sem] def r_value_number_18_o : Ops := [
oo 52 (.fieldA 1 (.t 3)), oo 53 (.load none (.t 52)), oo 54 (.bin .geq (.t 53) (ci 0)), oo 55 (.mv (.t 54)), og 56 55 true (.fieldA 1 (.t 3)), og 57 55 true (.load none (.t 56)), og 58 55 true (.fieldA 2 (.t 2)), og 59 55 true (.load none (.t 58)), og 60 55 true (.len false (.t 59)), og 61 55 true (.bin .lss (.t 57) (.t 60)), oo 62 (.pick (.t 55) (.t 61) (.c (.bool false))), oo 4 (.asg (.t 62))]
def r_value_number_18 := rg r_value_number_18_o [4]
@[go_sem] theorem r_value_number_18_u : Gr X K s r_value_number_18 r_value_number_18_o [4] := go_region _ _
@[go_sem] def r_value_number_19_o : Ops := [
oo 63 (.fieldA 1 (.t 3)), oo 64 (.load none (.t 63)), oo 65 (.bin .eql (.t 64) (ci 0)), oo 4 (.asg (.t 65))]
def r_value_number_19 := rg r_value_number_19_o [4]
@[go_sem] theorem r_value_number_19_u : Gr X K s r_value_number_19 r_value_number_19_o [4] := go_region _ _
def c_value_number : ICode := (.seq r_value_number_0 (.seq (.seq r_value_number_1 (.block 0 (.seq r_value_number_2 (.cond (.t 7) (.seq r_value_number_3 .ret) (.seq r_value_number_4 (.cond (.t 17) (.seq r_value_number_5 .ret) (.seq r_value_number_6 (.cond (.t 22) (.seq r_value_number_7 .ret) (.seq (.seq r_value_number_8 (.cond (.t 27) .skip r_value_number_9)) (.cond (.t 27) (.seq r_value_number_10 .ret) (.seq r_value_number_11 (.cond (.t 33) (.seq r_value_number_12 .ret) (.seq r_value_number_13 (.cond (.t 35) (.seq r_value_number_14 .ret) (.seq r_value_number_15 (.cond (.t 43) (.seq r_value_number_16 .ret) (.seq r_value_number_17 (.cond (.t 50) (.seq r_value_number_18 .ret) .skip)))))))))))))))))) (.seq r_value_number_19 .ret)))
def i_value_number : IFunc := ⟨2, [.t 4], c_value_number⟩
def a_value_number : Advice := ⟨[], [(19, [4]), (3, [4]), (5, [4]), (7, [4]), (10, [4]), (12, [4]), (14, [4]), (16, [4]), (18, [4]), (17, [2, 3, 50]), (15, [2, 3, 6, 43]), (13, [2, 3, 6, 35]), (11, [2, 3, 6, 33]), (9, [2, 3, 6, 27]), (8, [2, 3, 6, 27]), (6, [2, 3, 6, 22]), (4, [2, 3, 6, 17]), (2, [2, 3, 6, 7]), (1, [2, 3, 6]), (0, [2, 3])], [], [], []⟩
/-! ingot/value.named -/
@[go_sem] def r_value_named_0_o : Ops := [
oo 2 (.box 6 (.t 0)), oo 3 (.box 5 (.t 1)), oo 4 (.asg (.c (.bool false)))]
def r_value_named_0 := rg r_value_named_0_o [2, 3]
@[go_sem] theorem r_value_named_0_u : Gr X K s r_value_named_0 r_value_named_0_o [2, 3] := go_region _ _
@[go_sem] def r_value_named_1_o : Ops := [
oo 5 (.fieldA 0 (.t 3)), oo 6 (.load none (.t 5))]
def r_value_named_1 := rg r_value_named_1_o [2, 3, 6]
@[go_sem] theorem r_value_named_1_u : Gr X K s r_value_named_1 r_value_named_1_o [2, 3, 6] := go_region _ _
@[go_sem] def r_value_named_2_o : Ops := [
oo 7 (.fieldA 1 (.t 3)), oo 8 (.load none (.t 7)), oo 9 (.bin .eql (.t 8) (ci 0)), oo 10 (.mv (.t 9)), og 11 10 true (.fieldA 2 (.t 3)), og 12 10 true (.load none (.t 11)), og 13 10 true (.bin .eql (.t 12) (ci 0)), oo 14 (.pick (.t 10) (.t 13) (.c (.bool false))), oo 15 (.mv (.t 14)), og 16 15 true (.fieldA 3 (.t 3)), og 17 15 true (.load none (.t 16)), og 18 15 true (.len false (.t 17)), og 19 15 true (.bin .eql (.t 18) (ci 0)), oo 20 (.pick (.t 15) (.t 19) (.c (.bool false))), oo 21 (.mv (.t 20)), og 22 21 true (.fieldA 4 (.t 3)), og 23 21 true (.load none (.t 22)), og 24 21 true (.len false (.t 23)), og 25 21 true (.bin .eql (.t 24) (ci 0)), oo 26 (.pick (.t 21) (.t 25) (.c (.bool false))), oo 4 (.asg (.t 26))]
def r_value_named_2 := rg r_value_named_2_o [4]
@[go_sem] theorem r_value_named_2_u : Gr X K s r_value_named_2 r_value_named_2_o [4] := go_region _ _
@[go_sem] def r_value_named_3_o : Ops := [
oo 27 (.fieldA 2 (.t 3)), oo 28 (.load none (.t 27)), oo 29 (.bin .eql (.t 28) (ci 0)), oo 30 (.mv (.t 29)), og 31 30 false (.fieldA 0 (.t 2)), og 32 30 false (.load none (.t 31)), og 33 30 false (.bin .eql (.t 32) (ci 9)), oo 34 (.pick (.t 30) (.c (.bool true)) (.t 33)), oo 35 (.mv (.t 34)), og 36 35 true (.fieldA 3 (.t 3)), og 37 35 true (.load none (.t 36)), og 38 35 true (.len false (.t 37)), og 39 35 true (.bin .eql (.t 38) (ci 0)), og 40 35 true (.mv (.t 39)), og 41 40 false (.fieldA 0 (.t 2)), og 42 40 false (.load none (.t 41)), og 43 40 false (.call false n_value_text [(.t 42)]), og 44 35 true (.pick (.t 40) (.c (.bool true)) (.t 43)), oo 45 (.pick (.t 35) (.t 44) (.c (.bool false))), oo 46 (.mv (.t 45)), og 47 46 true (.fieldA 4 (.t 3)), og 48 46 true (.load none (.t 47)), og 49 46 true (.len false (.t 48)), og 50 46 true (.bin .eql (.t 49) (ci 0)), og 51 46 true (.mv (.t 50)), og 52 51 false (.fieldA 0 (.t 2)), og 53 51 false (.load none (.t 52)), og 54 51 false (.call false n_types_Leaf [(.t 53)]), og 55 51 false (.un .not (.t 54)), og 56 46 true (.pick (.t 51) (.c (.bool true)) (.t 55)), oo 57 (.pick (.t 46) (.t 56) (.c (.bool false))), oo 4 (.asg (.t 57))]
def r_value_named_3 := rg r_value_named_3_o [4]
@[go_sem] theorem r_value_named_3_u : Gr X K s r_value_named_3 r_value_named_3_o [4] := go_region _ _
def c_value_named : ICode := (.seq r_value_named_0 (.seq r_value_named_1 (.cond (.t 6) (.seq r_value_named_2 .ret) (.seq r_value_named_3 .ret))))
def i_value_named : IFunc := ⟨2, [.t 4], c_value_named⟩
def a_value_named : Advice := ⟨[], [(3, [4]), (2, [4]), (1, [2, 3, 6]), (0, [2, 3])], [], [], []⟩
/-! ingot/value.Check -/
@[go_sem] def r_value_Check_0_o : Ops := [
oo 2 (.box 6 (.t 0)), oo 3 (.box 5 (.t 1)), oo 4 (.asg (ci 0))]
def r_value_Check_0 := rg r_value_Check_0_o [2, 3]
@[go_sem] theorem r_value_Check_0_u : Gr X K s r_value_Check_0 r_value_Check_0_o [2, 3] := go_region _ _
@[go_sem] def r_value_Check_1_o : Ops := [
oo 12 (.load (some 6) (.t 2)), oo 13 (.load (some 5) (.t 3)), oo 14 (.call false n_value_named [(.t 12), (.t 13)]), oo 15 (.un .not (.t 14)), oo 16 (.mv (.t 15)), og 17 16 false (.fieldA 0 (.t 3)), og 18 16 false (.load none (.t 17)), og 19 16 false (.un .not (.t 18)), og 20 16 false (.mv (.t 19)), og 21 20 true (.load (some 6) (.t 2)), og 22 20 true (.load (some 5) (.t 3)), og 23 20 true (.call false n_value_number [(.t 21), (.t 22)]), og 24 20 true (.un .not (.t 23)), og 25 16 false (.pick (.t 20) (.t 24) (.c (.bool false))), oo 26 (.pick (.t 16) (.c (.bool true)) (.t 25)), oo 11 (.asg (.t 26))]
def r_value_Check_1 := rg r_value_Check_1_o [2, 3, 11]
@[go_sem] theorem r_value_Check_1_u : Gr X K s r_value_Check_1 r_value_Check_1_o [2, 3, 11] := go_region _ _
@[go_sem] def r_value_Check_2_o : Ops := [
oo 4 (.asg (ci 1))]
def r_value_Check_2 := rg r_value_Check_2_o [4]
@[go_sem] theorem r_value_Check_2_u : Gr X K s r_value_Check_2 r_value_Check_2_o [4] := go_region _ _
@[go_sem] def r_value_Check_3_o : Ops := [
oo 28 (.fieldA 0 (.t 3)), oo 29 (.load none (.t 28)), oo 27 (.asg (.t 29))]
def r_value_Check_3 := rg r_value_Check_3_o [2, 3, 27]
@[go_sem] theorem r_value_Check_3_u : Gr X K s r_value_Check_3 r_value_Check_3_o [2, 3, 27] := go_region _ _
@[go_sem] def r_value_Check_4_o : Ops := [
oo 4 (.asg (ci 0))]
def r_value_Check_4 := rg r_value_Check_4_o [4]
@[go_sem] theorem r_value_Check_4_u : Gr X K s r_value_Check_4 r_value_Check_4_o [4] := go_region _ _
@[go_sem] def r_value_Check_5_o : Ops := [
oo 31 (.load (some 6) (.t 2)), oo 32 (.load (some 5) (.t 3)), oo 33 (.call false n_value_long [(.t 31), (.t 32)]), oo 30 (.asg (.t 33))]
def r_value_Check_5 := rg r_value_Check_5_o [2, 3, 30]
@[go_sem] theorem r_value_Check_5_u : Gr X K s r_value_Check_5 r_value_Check_5_o [2, 3, 30] := go_region _ _
@[go_sem] def r_value_Check_6_o : Ops := [
oo 4 (.asg (ci 4))]
def r_value_Check_6 := rg r_value_Check_6_o [4]
@[go_sem] theorem r_value_Check_6_u : Gr X K s r_value_Check_6 r_value_Check_6_o [4] := go_region _ _
@[go_sem] def r_value_Check_7_o : Ops := [
oo 34 (.load (some 6) (.t 2)), oo 35 (.load (some 5) (.t 3)), oo 36 (.call false n_value_count [(.t 34), (.t 35)]), oo 5 (.asg (.t 36))]
def r_value_Check_7 := rg r_value_Check_7_o [2, 3, 5]
@[go_sem] theorem r_value_Check_7_u : Gr X K s r_value_Check_7 r_value_Check_7_o [2, 3, 5] := go_region _ _
@[go_sem] def r_value_Check_8_o : Ops := [
oo 37 (.mv (.t 5)), oo 38 (.bin .neq (.t 37) (ci 0))]
def r_value_Check_8 := rg r_value_Check_8_o [2, 3, 5, 38]
@[go_sem] theorem r_value_Check_8_u : Gr X K s r_value_Check_8 r_value_Check_8_o [2, 3, 5, 38] := go_region _ _
@[go_sem] def r_value_Check_9_o : Ops := [
oo 39 (.mv (.t 5)), oo 4 (.asg (.t 39))]
def r_value_Check_9 := rg r_value_Check_9_o [4]
@[go_sem] theorem r_value_Check_9_u : Gr X K s r_value_Check_9 r_value_Check_9_o [4] := go_region _ _
@[go_sem] def r_value_Check_10_o : Ops := [
oo 40 (.fieldA 4 (.t 3)), oo 41 (.load none (.t 40)), oo 42 (.len false (.t 41)), oo 43 (.mv (ci 0))]
def r_value_Check_10 := rg r_value_Check_10_o [2, 3, 41, 42, 43]
@[go_sem] theorem r_value_Check_10_u : Gr X K s r_value_Check_10 r_value_Check_10_o [2, 3, 41, 42, 43] := go_region _ _
@[go_sem] def r_value_Check_11_o : Ops := [
oo 44 (.bin .lss (.t 43) (.t 42))]
def r_value_Check_11 := rg r_value_Check_11_o [2, 3, 41, 42, 43, 44]
@[go_sem] theorem r_value_Check_11_u : Gr X K s r_value_Check_11 r_value_Check_11_o [2, 3, 41, 42, 43, 44] := go_region _ _
@[go_sem] def r_value_Check_12_o : Ops := [
oo 45 (.mv (.t 43)), oo 46 (.idxA 5 (.t 41) (.t 43)), oo 47 (.load (some 5) (.t 46)), oo 7 (.alloc [(.bool false), (.int .i64 0), (.int .i64 0), .nilS, .nilS]), oo 6 (.asg (.t 45)), ow (.store 5 (.t 7) (.t 47))]
def r_value_Check_12 := rg r_value_Check_12_o [2, 3, 6, 7, 41, 42, 43]
@[go_sem] theorem r_value_Check_12_u : Gr X K s r_value_Check_12 r_value_Check_12_o [2, 3, 6, 7, 41, 42, 43] := go_region _ _
@[go_sem] def r_value_Check_13_o : Ops := [
oo 49 (.load (some 6) (.t 2)), oo 50 (.load (some 5) (.t 3)), oo 51 (.mv (.t 6)), oo 52 (.call false n_value_kid [(.t 49), (.t 50), (.t 51)]), oo 48 (.mv (.t 52)), oo 53 (.ext (.t 48) 0), oo 54 (.ext (.t 48) 1), oo 8 (.alloc [(.int .i64 0), .nilS, .nilS, (.int .i64 0), (.int .i64 0), (.int .i64 0)]), ow (.store 6 (.t 8) (.t 53)), oo 9 (.asg (.t 54))]
def r_value_Check_13 := rg r_value_Check_13_o [2, 3, 6, 7, 8, 9, 41, 42, 43]
@[go_sem] theorem r_value_Check_13_u : Gr X K s r_value_Check_13 r_value_Check_13_o [2, 3, 6, 7, 8, 9, 41, 42, 43] := go_region _ _
@[go_sem] def r_value_Check_14_o : Ops := [
oo 55 (.mv (.t 9)), oo 56 (.un .not (.t 55)), oo 57 (.mv (.t 56)), og 58 57 false (.fieldA 0 (.t 2)), og 59 57 false (.load none (.t 58)), og 60 57 false (.bin .eql (.t 59) (ci 11)), og 61 57 false (.mv (.t 60)), og 62 61 true (.mv (.t 6)), og 63 61 true (.bin .rem (.t 62) (ci 2)), og 64 61 true (.bin .eql (.t 63) (ci 0)), og 65 57 false (.pick (.t 61) (.t 64) (.c (.bool false))), og 66 57 false (.mv (.t 65)), og 67 66 true (.fieldA 0 (.t 7)), og 68 66 true (.load none (.t 67)), og 69 57 false (.pick (.t 66) (.t 68) (.c (.bool false))), oo 70 (.pick (.t 57) (.c (.bool true)) (.t 69))]
def r_value_Check_14 := rg r_value_Check_14_o [2, 3, 7, 8, 41, 42, 43, 70]
@[go_sem] theorem r_value_Check_14_u : Gr X K s r_value_Check_14 r_value_Check_14_o [2, 3, 7, 8, 41, 42, 43, 70] := go_region _ _
@[go_sem] def r_value_Check_15_o : Ops := [
oo 4 (.asg (ci 1))]
def r_value_Check_15 := rg r_value_Check_15_o [4]
@[go_sem] theorem r_value_Check_15_u : Gr X K s r_value_Check_15 r_value_Check_15_o [4] := go_region _ _
@[go_sem] def r_value_Check_16_o : Ops := [
oo 71 (.load (some 6) (.t 8)), oo 72 (.load (some 5) (.t 7)), oo 73 (.call false n_value_Check [(.t 71), (.t 72)]), oo 10 (.asg (.t 73))]
def r_value_Check_16 := rg r_value_Check_16_o [2, 3, 10, 41, 42, 43]
@[go_sem] theorem r_value_Check_16_u : Gr X K s r_value_Check_16 r_value_Check_16_o [2, 3, 10, 41, 42, 43] := go_region _ _
@[go_sem] def r_value_Check_17_o : Ops := [
oo 74 (.mv (.t 10)), oo 75 (.bin .neq (.t 74) (ci 0))]
def r_value_Check_17 := rg r_value_Check_17_o [2, 3, 10, 41, 42, 43, 75]
@[go_sem] theorem r_value_Check_17_u : Gr X K s r_value_Check_17 r_value_Check_17_o [2, 3, 10, 41, 42, 43, 75] := go_region _ _
@[go_sem] def r_value_Check_18_o : Ops := [
oo 76 (.mv (.t 10)), oo 4 (.asg (.t 76))]
def r_value_Check_18 := rg r_value_Check_18_o [4]
@[go_sem] theorem r_value_Check_18_u : Gr X K s r_value_Check_18 r_value_Check_18_o [4] := go_region _ _
@[go_sem] def r_value_Check_19_o : Ops := [
oo 77 (.bin .add (.t 43) (ci 1)), oo 43 (.mv (.t 77))]
def r_value_Check_19 := rg r_value_Check_19_o [2, 3, 41, 42, 43]
@[go_sem] theorem r_value_Check_19_u : Gr X K s r_value_Check_19 r_value_Check_19_o [2, 3, 41, 42, 43] := go_region _ _
def b_value_Check_20 : ICode := (.seq r_value_Check_11 (.seq (.cond (.t 44) .skip (.exit 1)) (.seq (.block 2 (.seq (.seq (.free 7) r_value_Check_12) (.seq (.seq (.free 8) r_value_Check_13) (.seq (.seq r_value_Check_14 (.cond (.t 70) (.seq r_value_Check_15 .ret) .skip)) (.seq r_value_Check_16 (.seq r_value_Check_17 (.cond (.t 75) (.seq r_value_Check_18 .ret) .skip))))))) r_value_Check_19)))
@[go_sem] theorem b_value_Check_20_u : Gn X K s b_value_Check_20 (.seq r_value_Check_11 (.seq (.cond (.t 44) .skip (.exit 1)) (.seq (.block 2 (.seq (.seq (.free 7) r_value_Check_12) (.seq (.seq (.free 8) r_value_Check_13) (.seq (.seq r_value_Check_14 (.cond (.t 70) (.seq r_value_Check_15 .ret) .skip)) (.seq r_value_Check_16 (.seq r_value_Check_17 (.cond (.t 75) (.seq r_value_Check_18 .ret) .skip))))))) r_value_Check_19))) := rfl
@[go_sem] def r_value_Check_21_o : Ops := [
oo 4 (.asg (ci 0))]
def r_value_Check_21 := rg r_value_Check_21_o [4]
@[go_sem] theorem r_value_Check_21_u : Gr X K s r_value_Check_21 r_value_Check_21_o [4] := go_region _ _
def c_value_Check : ICode := (.seq r_value_Check_0 (.seq (.block 0 (.seq r_value_Check_1 (.cond (.t 11) (.seq r_value_Check_2 .ret) (.seq r_value_Check_3 (.cond (.t 27) (.seq r_value_Check_4 .ret) (.seq r_value_Check_5 (.cond (.t 30) (.seq r_value_Check_6 .ret) .skip))))))) (.seq (.seq r_value_Check_7 (.seq r_value_Check_8 (.cond (.t 38) (.seq r_value_Check_9 .ret) .skip))) (.seq (.seq r_value_Check_10 (.block 1 (.loop b_value_Check_20))) (.seq r_value_Check_21 .ret)))))
def i_value_Check : IFunc := ⟨2, [.t 4], c_value_Check⟩
def a_value_Check : Advice := ⟨[], [(20, [4]), (19, [2, 3, 41, 42, 43]), (18, [4]), (17, [2, 3, 10, 41, 42, 43, 75]), (16, [2, 3, 10, 41, 42, 43]), (15, [4]), (14, [2, 3, 7, 8, 41, 42, 43, 70]), (13, [2, 3, 6, 7, 8, 9, 41, 42, 43]), (12, [2, 3, 6, 7, 41, 42, 43]), (11, [2, 3, 41, 42, 43, 44]), (10, [2, 3, 41, 42, 43]), (9, [4]), (8, [2, 3, 5, 38]), (7, [2, 3, 5]), (2, [4]), (4, [4]), (6, [4]), (5, [2, 3, 30]), (3, [2, 3, 27]), (1, [2, 3, 11]), (0, [2, 3])], [], [(12, [7]), (13, [8])], []⟩
/-! ingot/value.project -/
@[go_sem] def r_value_project_0_o : Ops := [
oo 6 (.box 5 (.t 2)), oo 8 (.alloc [(.bool false), (.int .i64 0), (.int .i64 0), .nilS, .nilS])]
def r_value_project_0 := rg r_value_project_0_o [0, 1, 3, 6, 8]
@[go_sem] theorem r_value_project_0_u : Gr X K s r_value_project_0 r_value_project_0_o [0, 1, 3, 6, 8] := go_region _ _
@[go_sem] def r_value_project_1_o : Ops := [
oo 12 (.fieldA 0 (.t 6)), oo 13 (.load none (.t 12)), oo 14 (.mv (.t 13)), og 15 14 false (.mv (.t 0)), og 16 14 false (.mv (.t 3)), og 17 14 false (.idxA 8 (.t 15) (.t 16)), og 18 14 false (.fieldA 0 (.t 17)), og 19 14 false (.load none (.t 18)), og 20 14 false (.bin .neq (.t 19) (ci 12)), oo 21 (.pick (.t 14) (.c (.bool true)) (.t 20))]
def r_value_project_1 := rg r_value_project_1_o [0, 1, 3, 6, 8, 21]
@[go_sem] theorem r_value_project_1_u : Gr X K s r_value_project_1 r_value_project_1_o [0, 1, 3, 6, 8, 21] := go_region _ _
@[go_sem] def r_value_project_2_o : Ops := [
oo 22 (.load (some 5) (.t 6)), oo 23 (.call false n_value_Clone [(.t 22)]), ow (.store 5 (.t 8) (.t 23))]
def r_value_project_2 := rg r_value_project_2_o [8]
@[go_sem] theorem r_value_project_2_u : Gr X K s r_value_project_2 r_value_project_2_o [8] := go_region _ _
@[go_sem] def r_value_project_3_o : Ops := [
oo 24 (.load (some 5) (.t 6)), oo 9 (.alloc [(.bool false), (.int .i64 0), (.int .i64 0), .nilS, .nilS]), ow (.store 5 (.t 9) (.t 24))]
def r_value_project_3 := rg r_value_project_3_o [0, 1, 3, 6, 8, 9]
@[go_sem] theorem r_value_project_3_u : Gr X K s r_value_project_3 r_value_project_3_o [0, 1, 3, 6, 8, 9] := go_region _ _
@[go_sem] def r_value_project_4_o : Ops := [
oo 25 (.fieldA 3 (.t 9)), ow (.store 1 (.t 25) (.c .nilS)), oo 26 (.fieldA 4 (.t 9)), ow (.store 1 (.t 26) (.c .nilS))]
def r_value_project_4 := rg r_value_project_4_o [0, 1, 3, 6, 8, 9]
@[go_sem] theorem r_value_project_4_u : Gr X K s r_value_project_4 r_value_project_4_o [0, 1, 3, 6, 8, 9] := go_region _ _
@[go_sem] def r_value_project_5_o : Ops := [
oo 27 (.mv (.t 0)), oo 28 (.mv (.t 3)), oo 29 (.idxA 8 (.t 27) (.t 28)), oo 30 (.fieldA 1 (.t 29)), oo 31 (.load none (.t 30)), oo 32 (.len false (.t 31)), oo 33 (.mv (ci 0))]
def r_value_project_5 := rg r_value_project_5_o [0, 1, 6, 8, 9, 31, 32, 33]
@[go_sem] theorem r_value_project_5_u : Gr X K s r_value_project_5 r_value_project_5_o [0, 1, 6, 8, 9, 31, 32, 33] := go_region _ _
@[go_sem] def r_value_project_6_o : Ops := [
oo 34 (.bin .lss (.t 33) (.t 32))]
def r_value_project_6 := rg r_value_project_6_o [0, 1, 6, 8, 9, 31, 32, 33, 34]
@[go_sem] theorem r_value_project_6_u : Gr X K s r_value_project_6 r_value_project_6_o [0, 1, 6, 8, 9, 31, 32, 33, 34] := go_region _ _
@[go_sem] def r_value_project_7_o : Ops := [
oo 35 (.mv (.t 33)), oo 36 (.idxA 1 (.t 31) (.t 33)), oo 37 (.load none (.t 36)), oo 10 (.asg (.t 35)), oo 11 (.asg (.t 37))]
def r_value_project_7 := rg r_value_project_7_o [0, 1, 6, 8, 9, 10, 11, 31, 32, 33]
@[go_sem] theorem r_value_project_7_u : Gr X K s r_value_project_7 r_value_project_7_o [0, 1, 6, 8, 9, 10, 11, 31, 32, 33] := go_region _ _
@[go_sem] def r_value_project_8_o : Ops := [
oo 38 (.mv (.t 1)), oo 39 (.mv (.t 11)), oo 40 (.idxA 1 (.t 38) (.t 39)), oo 41 (.load none (.t 40)), oo 42 (.mv (.t 41)), og 43 42 true (.mv (.t 10)), og 44 42 true (.fieldA 4 (.t 6)), og 45 42 true (.load none (.t 44)), og 46 42 true (.len false (.t 45)), og 47 42 true (.bin .lss (.t 43) (.t 46)), oo 48 (.pick (.t 42) (.t 47) (.c (.bool false)))]
def r_value_project_8 := rg r_value_project_8_o [0, 1, 6, 8, 9, 10, 11, 31, 32, 33, 48]
@[go_sem] theorem r_value_project_8_u : Gr X K s r_value_project_8 r_value_project_8_o [0, 1, 6, 8, 9, 10, 11, 31, 32, 33, 48] := go_region _ _
@[go_sem] def r_value_project_9_o : Ops := [
oo 49 (.fieldA 4 (.t 9)), oo 50 (.load none (.t 49)), oo 51 (.mv (.t 0)), oo 52 (.mv (.t 1)), oo 53 (.fieldA 4 (.t 6)), oo 54 (.load none (.t 53)), oo 55 (.mv (.t 10)), oo 56 (.idxA 5 (.t 54) (.t 55)), oo 57 (.load (some 5) (.t 56)), oo 58 (.mv (.t 11)), oo 59 (.call false n_value_project [(.t 51), (.t 52), (.t 57), (.t 58)]), oo 60 (.lit false 5 1 (.agg [(.bool false), (.int .i64 0), (.int .i64 0), (.sl []), (.sl [])]) [(0, (.t 59))]), oo 61 (.append 5 72 (.t 50) (.t 60)), oo 62 (.fieldA 4 (.t 9)), ow (.store 1 (.t 62) (.t 61))]
def r_value_project_9_n : List (Nat × Nat) := [(0, 2), (1, 2), (0, 3), (1, 3), (2, 3), (0, 4), (1, 4), (2, 4), (3, 4), (0, 5), (1, 5), (2, 5), (3, 5), (0, 6), (1, 6), (2, 6), (3, 6), (4, 6), (5, 6), (0, 7), (1, 7), (2, 7), (3, 7), (0, 8), (1, 8), (2, 8), (3, 8), (0, 9), (1, 9), (2, 9), (3, 9), (4, 9), (5, 9), (6, 9), (7, 9), (8, 9), (0, 10), (1, 10), (0, 11), (1, 11)]
def r_value_project_9 : ICode := .region r_value_project_9_o r_value_project_9_n [0, 1, 6, 8, 9, 31, 32, 33]
@[go_sem] theorem r_value_project_9_u : go X (.c r_value_project_9 :: K) s = goRU X [] r_value_project_9_n r_value_project_9_o [0, 1, 6, 8, 9, 31, 32, 33] K s := go_regionU' _ _ _ _
@[go_sem] def r_value_project_10_o : Ops := [
oo 63 (.bin .add (.t 33) (ci 1)), oo 33 (.mv (.t 63))]
def r_value_project_10 := rg r_value_project_10_o [0, 1, 6, 8, 9, 31, 32, 33]
@[go_sem] theorem r_value_project_10_u : Gr X K s r_value_project_10 r_value_project_10_o [0, 1, 6, 8, 9, 31, 32, 33] := go_region _ _
def b_value_project_11 : ICode := (.seq r_value_project_6 (.seq (.cond (.t 34) .skip (.exit 0)) (.seq (.block 1 (.seq r_value_project_7 (.seq r_value_project_8 (.cond (.t 48) r_value_project_9 .skip)))) r_value_project_10)))
@[go_sem] theorem b_value_project_11_u : Gn X K s b_value_project_11 (.seq r_value_project_6 (.seq (.cond (.t 34) .skip (.exit 0)) (.seq (.block 1 (.seq r_value_project_7 (.seq r_value_project_8 (.cond (.t 48) r_value_project_9 .skip)))) r_value_project_10))) := rfl
@[go_sem] def r_value_project_12_o : Ops := [
oo 64 (.fieldA 4 (.t 9)), oo 65 (.load none (.t 64)), oo 66 (.call true n_slices_Clip_Sapi_Value_api_Value [(.t 65)]), oo 67 (.fieldA 4 (.t 9)), ow (.store 1 (.t 67) (.t 66))]
def r_value_project_12 := rg r_value_project_12_o [8, 9]
@[go_sem] theorem r_value_project_12_u : Gr X K s r_value_project_12 r_value_project_12_o [8, 9] := go_region _ _
@[go_sem] def r_value_project_13_o : Ops := [
oo 68 (.load (some 5) (.t 9)), ow (.store 5 (.t 8) (.t 68))]
def r_value_project_13 := rg r_value_project_13_o [8]
@[go_sem] theorem r_value_project_13_u : Gr X K s r_value_project_13 r_value_project_13_o [8] := go_region _ _
def c_value_project : ICode := (.seq r_value_project_0 (.seq r_value_project_1 (.cond (.t 21) (.seq r_value_project_2 .ret) (.seq r_value_project_3 (.seq r_value_project_4 (.seq (.seq r_value_project_5 (.block 0 (.loop b_value_project_11))) (.seq r_value_project_12 (.seq r_value_project_13 .ret))))))))
def i_value_project : IFunc := ⟨4, [.cell 8 (some 5)], c_value_project⟩
def a_value_project : Advice := ⟨[61, 66], [(12, [8]), (11, [8, 9]), (10, [0, 1, 6, 8, 9, 31, 32, 33]), (9, [0, 1, 6, 8, 9, 31, 32, 33]), (8, [0, 1, 6, 8, 9, 10, 11, 31, 32, 33, 48]), (7, [0, 1, 6, 8, 9, 10, 11, 31, 32, 33]), (6, [0, 1, 6, 8, 9, 31, 32, 33, 34]), (5, [0, 1, 6, 8, 9, 31, 32, 33]), (4, [0, 1, 3, 6, 8, 9]), (3, [0, 1, 3, 6, 8, 9]), (2, [8]), (1, [0, 1, 3, 6, 8, 21]), (0, [0, 1, 3, 6, 8])], [], [], []⟩
/-! slices.Clone[[]byte,byte] -/
@[go_sem] def r_slices_Clone_Sbyte_byte_0_o : Ops := [
oo 2 (.asg (.c .nilS))]
def r_slices_Clone_Sbyte_byte_0 := rg r_slices_Clone_Sbyte_byte_0_o [0]
@[go_sem] theorem r_slices_Clone_Sbyte_byte_0_u : Gr X K s r_slices_Clone_Sbyte_byte_0 r_slices_Clone_Sbyte_byte_0_o [0] := go_region _ _
@[go_sem] def r_slices_Clone_Sbyte_byte_1_o : Ops := [
oo 3 (.mv (.t 0)), oo 4 (.isNil false (.t 3))]
def r_slices_Clone_Sbyte_byte_1 := rg r_slices_Clone_Sbyte_byte_1_o [0, 4]
@[go_sem] theorem r_slices_Clone_Sbyte_byte_1_u : Gr X K s r_slices_Clone_Sbyte_byte_1 r_slices_Clone_Sbyte_byte_1_o [0, 4] := go_region _ _
@[go_sem] def r_slices_Clone_Sbyte_byte_2_o : Ops := [
oo 2 (.asg (.c .nilS))]
def r_slices_Clone_Sbyte_byte_2 := rg r_slices_Clone_Sbyte_byte_2_o [2]
@[go_sem] theorem r_slices_Clone_Sbyte_byte_2_u : Gr X K s r_slices_Clone_Sbyte_byte_2 r_slices_Clone_Sbyte_byte_2_o [2] := go_region _ _
@[go_sem] def r_slices_Clone_Sbyte_byte_3_o : Ops := [
oo 5 (.lit true 1 0 (.int .u8 0) []), oo 6 (.mv (.t 0)), oo 7 (.append 1 1 (.t 5) (.t 6)), oo 2 (.asg (.t 7))]
def r_slices_Clone_Sbyte_byte_3 := rg r_slices_Clone_Sbyte_byte_3_o [2]
@[go_sem] theorem r_slices_Clone_Sbyte_byte_3_u : Gr X K s r_slices_Clone_Sbyte_byte_3 r_slices_Clone_Sbyte_byte_3_o [2] := go_region _ _
def c_slices_Clone_Sbyte_byte : ICode := (.seq r_slices_Clone_Sbyte_byte_0 (.seq r_slices_Clone_Sbyte_byte_1 (.cond (.t 4) (.seq r_slices_Clone_Sbyte_byte_2 .ret) (.seq r_slices_Clone_Sbyte_byte_3 .ret))))
def i_slices_Clone_Sbyte_byte : IFunc := ⟨1, [.t 2], c_slices_Clone_Sbyte_byte⟩
def a_slices_Clone_Sbyte_byte : Advice := ⟨[5], [(3, [2]), (2, [2]), (1, [0, 4]), (0, [0])], [], [], []⟩
/-! ingot/value.Clone -/
@[go_sem] def r_value_Clone_0_o : Ops := [
oo 1 (.box 5 (.t 0)), oo 2 (.alloc [(.bool false), (.int .i64 0), (.int .i64 0), .nilS, .nilS])]
def r_value_Clone_0 := rg r_value_Clone_0_o [1, 2]
@[go_sem] theorem r_value_Clone_0_u : Gr X K s r_value_Clone_0 r_value_Clone_0_o [1, 2] := go_region _ _
@[go_sem] def r_value_Clone_1_o : Ops := [
oo 6 (.fieldA 3 (.t 1)), oo 7 (.load none (.t 6)), oo 8 (.call false n_slices_Clone_Sbyte_byte [(.t 7)]), oo 9 (.call false n_slices_Clip_Sbyte_byte [(.t 8)]), oo 10 (.fieldA 3 (.t 1)), ow (.store 1 (.t 10) (.t 9))]
def r_value_Clone_1 := rg r_value_Clone_1_o [1, 2]
@[go_sem] theorem r_value_Clone_1_u : Gr X K s r_value_Clone_1 r_value_Clone_1_o [1, 2] := go_region _ _
@[go_sem] def r_value_Clone_2_o : Ops := [
oo 3 (.asg (.c .nilS))]
def r_value_Clone_2 := rg r_value_Clone_2_o [1, 2, 3]
@[go_sem] theorem r_value_Clone_2_u : Gr X K s r_value_Clone_2 r_value_Clone_2_o [1, 2, 3] := go_region _ _
@[go_sem] def r_value_Clone_3_o : Ops := [
oo 11 (.fieldA 4 (.t 1)), oo 12 (.load none (.t 11)), oo 13 (.len false (.t 12)), oo 14 (.mv (ci 0))]
def r_value_Clone_3 := rg r_value_Clone_3_o [1, 2, 3, 12, 13, 14]
@[go_sem] theorem r_value_Clone_3_u : Gr X K s r_value_Clone_3 r_value_Clone_3_o [1, 2, 3, 12, 13, 14] := go_region _ _
@[go_sem] def r_value_Clone_4_o : Ops := [
oo 15 (.bin .lss (.t 14) (.t 13))]
def r_value_Clone_4 := rg r_value_Clone_4_o [1, 2, 3, 12, 13, 14, 15]
@[go_sem] theorem r_value_Clone_4_u : Gr X K s r_value_Clone_4 r_value_Clone_4_o [1, 2, 3, 12, 13, 14, 15] := go_region _ _
@[go_sem] def r_value_Clone_5_o : Ops := [
oo 16 (.idxA 5 (.t 12) (.t 14)), oo 17 (.load (some 5) (.t 16)), oo 5 (.alloc [(.bool false), (.int .i64 0), (.int .i64 0), .nilS, .nilS]), ow (.store 5 (.t 5) (.t 17))]
def r_value_Clone_5 := rg r_value_Clone_5_o [1, 2, 3, 5, 12, 13, 14]
@[go_sem] theorem r_value_Clone_5_u : Gr X K s r_value_Clone_5 r_value_Clone_5_o [1, 2, 3, 5, 12, 13, 14] := go_region _ _
@[go_sem] def r_value_Clone_6_o : Ops := [
oo 18 (.mv (.t 3)), oo 19 (.load (some 5) (.t 5)), oo 20 (.call false n_value_Clone [(.t 19)]), oo 21 (.lit false 5 1 (.agg [(.bool false), (.int .i64 0), (.int .i64 0), (.sl []), (.sl [])]) [(0, (.t 20))]), oo 22 (.append 5 72 (.t 18) (.t 21)), oo 3 (.asg (.t 22))]
def r_value_Clone_6 := rg r_value_Clone_6_o [1, 2, 3, 12, 13, 14]
@[go_sem] theorem r_value_Clone_6_u : Gr X K s r_value_Clone_6 r_value_Clone_6_o [1, 2, 3, 12, 13, 14] := go_region _ _
@[go_sem] def r_value_Clone_7_o : Ops := [
oo 23 (.bin .add (.t 14) (ci 1)), oo 14 (.mv (.t 23))]
def r_value_Clone_7 := rg r_value_Clone_7_o [1, 2, 3, 12, 13, 14]
@[go_sem] theorem r_value_Clone_7_u : Gr X K s r_value_Clone_7 r_value_Clone_7_o [1, 2, 3, 12, 13, 14] := go_region _ _
def b_value_Clone_8 : ICode := (.seq r_value_Clone_4 (.seq (.cond (.t 15) .skip (.exit 0)) (.seq (.block 1 (.seq (.seq (.free 5) r_value_Clone_5) r_value_Clone_6)) r_value_Clone_7)))
@[go_sem] theorem b_value_Clone_8_u : Gn X K s b_value_Clone_8 (.seq r_value_Clone_4 (.seq (.cond (.t 15) .skip (.exit 0)) (.seq (.block 1 (.seq (.seq (.free 5) r_value_Clone_5) r_value_Clone_6)) r_value_Clone_7))) := rfl
@[go_sem] def r_value_Clone_9_o : Ops := [
oo 24 (.mv (.t 3)), oo 25 (.call false n_slices_Clip_Sapi_Value_api_Value [(.t 24)]), oo 26 (.fieldA 4 (.t 1)), ow (.store 1 (.t 26) (.t 25))]
def r_value_Clone_9 := rg r_value_Clone_9_o [1, 2]
@[go_sem] theorem r_value_Clone_9_u : Gr X K s r_value_Clone_9 r_value_Clone_9_o [1, 2] := go_region _ _
@[go_sem] def r_value_Clone_10_o : Ops := [
oo 27 (.load (some 5) (.t 1)), ow (.store 5 (.t 2) (.t 27))]
def r_value_Clone_10 := rg r_value_Clone_10_o [2]
@[go_sem] theorem r_value_Clone_10_u : Gr X K s r_value_Clone_10 r_value_Clone_10_o [2] := go_region _ _
def c_value_Clone : ICode := (.seq r_value_Clone_0 (.seq r_value_Clone_1 (.seq r_value_Clone_2 (.seq (.seq r_value_Clone_3 (.block 0 (.loop b_value_Clone_8))) (.seq r_value_Clone_9 (.seq r_value_Clone_10 .ret))))))
def i_value_Clone : IFunc := ⟨1, [.cell 2 (some 5)], c_value_Clone⟩
def a_value_Clone : Advice := ⟨[22], [(9, [2]), (8, [1, 2]), (7, [1, 2, 3, 12, 13, 14]), (6, [1, 2, 3, 12, 13, 14]), (5, [1, 2, 3, 5, 12, 13, 14]), (4, [1, 2, 3, 12, 13, 14, 15]), (3, [1, 2, 3, 12, 13, 14]), (2, [1, 2, 3]), (1, [1, 2]), (0, [1, 2])], [], [(5, [5])], []⟩
/-! ingot/value.Project -/
@[go_sem] def r_value_Project_0_o : Ops := [
oo 5 (.box 5 (.t 2)), oo 6 (.alloc [(.bool false), (.int .i64 0), (.int .i64 0), .nilS, .nilS])]
def r_value_Project_0 := rg r_value_Project_0_o [0, 1, 5, 6]
@[go_sem] theorem r_value_Project_0_u : Gr X K s r_value_Project_0 r_value_Project_0_o [0, 1, 5, 6] := go_region _ _
@[go_sem] def r_value_Project_1_o : Ops := [
oo 7 (.mv (.t 0)), oo 8 (.len false (.t 7)), oo 9 (.bin .eql (.t 8) (ci 0)), oo 10 (.mv (.t 9)), og 11 10 false (.mv (.t 1)), og 12 10 false (.len false (.t 11)), og 13 10 false (.mv (.t 0)), og 14 10 false (.len false (.t 13)), og 15 10 false (.bin .neq (.t 12) (.t 14)), oo 16 (.pick (.t 10) (.c (.bool true)) (.t 15))]
def r_value_Project_1 := rg r_value_Project_1_o [0, 1, 5, 6, 16]
@[go_sem] theorem r_value_Project_1_u : Gr X K s r_value_Project_1 r_value_Project_1_o [0, 1, 5, 6, 16] := go_region _ _
@[go_sem] def r_value_Project_2_o : Ops := [
oo 17 (.load (some 5) (.t 5)), oo 18 (.call false n_value_Clone [(.t 17)]), ow (.store 5 (.t 6) (.t 18))]
def r_value_Project_2 := rg r_value_Project_2_o [6]
@[go_sem] theorem r_value_Project_2_u : Gr X K s r_value_Project_2 r_value_Project_2_o [6] := go_region _ _
@[go_sem] def r_value_Project_3_o : Ops := [
oo 19 (.mv (.t 0)), oo 20 (.mv (.t 1)), oo 21 (.load (some 5) (.t 5)), oo 22 (.call false n_value_project [(.t 19), (.t 20), (.t 21), (ci 0)]), ow (.store 5 (.t 6) (.t 22))]
def r_value_Project_3 := rg r_value_Project_3_o [6]
@[go_sem] theorem r_value_Project_3_u : Gr X K s r_value_Project_3 r_value_Project_3_o [6] := go_region _ _
def c_value_Project : ICode := (.seq r_value_Project_0 (.seq r_value_Project_1 (.cond (.t 16) (.seq r_value_Project_2 .ret) (.seq r_value_Project_3 .ret))))
def i_value_Project : IFunc := ⟨3, [.cell 6 (some 5)], c_value_Project⟩
def a_value_Project : Advice := ⟨[], [(3, [6]), (2, [6]), (1, [0, 1, 5, 6, 16]), (0, [0, 1, 5, 6])], [], [], []⟩
/-! slices.Clone[[]string,string] -/
@[go_sem] def r_slices_Clone_Sstring_string_0_o : Ops := [
oo 2 (.asg (.c .nilS))]
def r_slices_Clone_Sstring_string_0 := rg r_slices_Clone_Sstring_string_0_o [0]
@[go_sem] theorem r_slices_Clone_Sstring_string_0_u : Gr X K s r_slices_Clone_Sstring_string_0 r_slices_Clone_Sstring_string_0_o [0] := go_region _ _
@[go_sem] def r_slices_Clone_Sstring_string_1_o : Ops := [
oo 3 (.mv (.t 0)), oo 4 (.isNil false (.t 3))]
def r_slices_Clone_Sstring_string_1 := rg r_slices_Clone_Sstring_string_1_o [0, 4]
@[go_sem] theorem r_slices_Clone_Sstring_string_1_u : Gr X K s r_slices_Clone_Sstring_string_1 r_slices_Clone_Sstring_string_1_o [0, 4] := go_region _ _
@[go_sem] def r_slices_Clone_Sstring_string_2_o : Ops := [
oo 2 (.asg (.c .nilS))]
def r_slices_Clone_Sstring_string_2 := rg r_slices_Clone_Sstring_string_2_o [2]
@[go_sem] theorem r_slices_Clone_Sstring_string_2_u : Gr X K s r_slices_Clone_Sstring_string_2 r_slices_Clone_Sstring_string_2_o [2] := go_region _ _
@[go_sem] def r_slices_Clone_Sstring_string_3_o : Ops := [
oo 5 (.lit true 1 0 (.str []) []), oo 6 (.mv (.t 0)), oo 7 (.append 1 16 (.t 5) (.t 6)), oo 2 (.asg (.t 7))]
def r_slices_Clone_Sstring_string_3 := rg r_slices_Clone_Sstring_string_3_o [2]
@[go_sem] theorem r_slices_Clone_Sstring_string_3_u : Gr X K s r_slices_Clone_Sstring_string_3 r_slices_Clone_Sstring_string_3_o [2] := go_region _ _
def c_slices_Clone_Sstring_string : ICode := (.seq r_slices_Clone_Sstring_string_0 (.seq r_slices_Clone_Sstring_string_1 (.cond (.t 4) (.seq r_slices_Clone_Sstring_string_2 .ret) (.seq r_slices_Clone_Sstring_string_3 .ret))))
def i_slices_Clone_Sstring_string : IFunc := ⟨1, [.t 2], c_slices_Clone_Sstring_string⟩
def a_slices_Clone_Sstring_string : Advice := ⟨[5], [(3, [2]), (2, [2]), (1, [0, 4]), (0, [0])], [], [], []⟩
/-! ingot/types.flatten -/
@[go_sem] def r_types_flatten_0_o : Ops := [
oo 5 (.box 6 (.t 1)), oo 8 (.asg (.c .nilS))]
def r_types_flatten_0 := rg r_types_flatten_0_o [0, 2, 3, 5]
@[go_sem] theorem r_types_flatten_0_u : Gr X K s r_types_flatten_0 r_types_flatten_0_o [0, 2, 3, 5] := go_region _ _
@[go_sem] def r_types_flatten_1_o : Ops := [
oo 13 (.mv (.t 0)), oo 14 (.len false (.t 13)), oo 9 (.asg (.t 14))]
def r_types_flatten_1 := rg r_types_flatten_1_o [0, 2, 3, 5, 9]
@[go_sem] theorem r_types_flatten_1_u : Gr X K s r_types_flatten_1 r_types_flatten_1_o [0, 2, 3, 5, 9] := go_region _ _
@[go_sem] def r_types_flatten_2_o : Ops := [
oo 15 (.mv (.t 0)), oo 16 (.fieldA 0 (.t 5)), oo 17 (.load none (.t 16)), oo 18 (.fieldA 1 (.t 5)), oo 19 (.load none (.t 18)), oo 20 (.call false n_slices_Clone_Sstring_string [(.t 19)]), oo 21 (.call false n_slices_Clip_Sstring_string [(.t 20)]), oo 22 (.fieldA 3 (.t 5)), oo 23 (.load none (.t 22)), oo 24 (.fieldA 4 (.t 5)), oo 25 (.load none (.t 24)), oo 26 (.fieldA 5 (.t 5)), oo 27 (.load none (.t 26)), oo 28 (.mv (.t 2)), oo 29 (.mv (.t 3)), oo 30 (.build [(.int .i64 0), (.sl []), (.sl []), (.int .i64 0), (.int .i64 0), (.int .i64 0), (.int .i64 0), (.int .i64 0)] [(0, 1, (.t 17)), (1, 1, (.c .nilS)), (2, 1, (.t 21)), (3, 1, (.t 23)), (4, 1, (.t 25)), (5, 1, (.t 27)), (6, 1, (.t 28)), (7, 1, (.t 29))]), oo 31 (.lit false 8 1 (.agg [(.int .i64 0), (.sl []), (.sl []), (.int .i64 0), (.int .i64 0), (.int .i64 0), (.int .i64 0), (.int .i64 0)]) [(0, (.t 30))]), oo 32 (.append 8 96 (.t 15) (.t 31)), oo 0 (.asg (.t 32))]
def r_types_flatten_2_n : List (Nat × Nat) := [(0, 1), (0, 2), (0, 3), (1, 3), (2, 3), (0, 4), (1, 4), (2, 4), (0, 5), (1, 5), (2, 5), (0, 6), (1, 6), (2, 6), (0, 7), (1, 7), (2, 7), (3, 7), (4, 7), (5, 7), (6, 7), (0, 8), (1, 8), (2, 8), (3, 8), (4, 8), (5, 8), (6, 8), (0, 9), (1, 9), (2, 9), (3, 9), (4, 9), (5, 9), (6, 9), (7, 9), (8, 9), (0, 10), (1, 10), (2, 10), (3, 10), (4, 10), (5, 10), (6, 10), (7, 10), (8, 10), (0, 11), (1, 11), (2, 11), (3, 11), (4, 11), (5, 11), (6, 11), (7, 11), (8, 11), (9, 11), (10, 11), (0, 12), (1, 12), (2, 12), (3, 12), (4, 12), (5, 12), (6, 12), (7, 12), (8, 12), (9, 12), (10, 12), (0, 13), (1, 13), (2, 13), (3, 13), (4, 13), (5, 13), (6, 13), (7, 13), (8, 13), (9, 13), (10, 13), (11, 13), (12, 13), (0, 14), (1, 14), (2, 14), (3, 14), (4, 14), (5, 14), (6, 14), (7, 14), (8, 14), (9, 14), (10, 14), (11, 14), (12, 14), (13, 14), (0, 15), (0, 16)]
def r_types_flatten_2 : ICode := .region r_types_flatten_2_o r_types_flatten_2_n [0, 3, 5, 9]
@[go_sem] theorem r_types_flatten_2_u : go X (.c r_types_flatten_2 :: K) s = goRU X [] r_types_flatten_2_n r_types_flatten_2_o [0, 3, 5, 9] K s := go_regionU' _ _ _ _
@[go_sem] def r_types_flatten_3_o : Ops := [
oo 10 (.asg (.c .nilS))]
def r_types_flatten_3 := rg r_types_flatten_3_o [0, 3, 5, 9, 10]
@[go_sem] theorem r_types_flatten_3_u : Gr X K s r_types_flatten_3 r_types_flatten_3_o [0, 3, 5, 9, 10] := go_region _ _
@[go_sem] def r_types_flatten_4_o : Ops := [
oo 33 (.fieldA 2 (.t 5)), oo 34 (.load none (.t 33)), oo 35 (.len false (.t 34)), oo 36 (.mv (ci 0))]
def r_types_flatten_4 := rg r_types_flatten_4_o [0, 3, 9, 10, 34, 35, 36]
@[go_sem] theorem r_types_flatten_4_u : Gr X K s r_types_flatten_4 r_types_flatten_4_o [0, 3, 9, 10, 34, 35, 36] := go_region _ _
@[go_sem] def r_types_flatten_5_o : Ops := [
oo 37 (.bin .lss (.t 36) (.t 35))]
def r_types_flatten_5 := rg r_types_flatten_5_o [0, 3, 9, 10, 34, 35, 36, 37]
@[go_sem] theorem r_types_flatten_5_u : Gr X K s r_types_flatten_5 r_types_flatten_5_o [0, 3, 9, 10, 34, 35, 36, 37] := go_region _ _
@[go_sem] def r_types_flatten_6_o : Ops := [
oo 38 (.idxA 6 (.t 34) (.t 36)), oo 39 (.load (some 6) (.t 38)), oo 12 (.alloc [(.int .i64 0), .nilS, .nilS, (.int .i64 0), (.int .i64 0), (.int .i64 0)]), ow (.store 6 (.t 12) (.t 39))]
def r_types_flatten_6 := rg r_types_flatten_6_o [0, 3, 9, 10, 12, 34, 35, 36]
@[go_sem] theorem r_types_flatten_6_u : Gr X K s r_types_flatten_6 r_types_flatten_6_o [0, 3, 9, 10, 12, 34, 35, 36] := go_region _ _
@[go_sem] def r_types_flatten_7_o : Ops := [
oo 40 (.mv (.t 10)), oo 41 (.mv (.t 0)), oo 42 (.len false (.t 41)), oo 43 (.lit false 1 1 (.int .i64 0) [(0, (.t 42))]), oo 44 (.append 1 8 (.t 40) (.t 43)), oo 10 (.asg (.t 44))]
def r_types_flatten_7 := rg r_types_flatten_7_o [0, 3, 9, 10, 12, 34, 35, 36]
@[go_sem] theorem r_types_flatten_7_u : Gr X K s r_types_flatten_7 r_types_flatten_7_o [0, 3, 9, 10, 12, 34, 35, 36] := go_region _ _
@[go_sem] def r_types_flatten_8_o : Ops := [
oo 45 (.mv (.t 0)), oo 46 (.load (some 6) (.t 12)), oo 47 (.mv (.t 9)), oo 48 (.mv (.t 3)), oo 49 (.bin .add (.t 48) (ci 1)), oo 50 (.callg true n_types_flatten [(.t 45), (.t 46), (.t 47), (.t 49)] 0), oo 0 (.asg (.t 50))]
def r_types_flatten_8 := rg r_types_flatten_8_o [0, 3, 9, 10, 34, 35, 36]
@[go_sem] theorem r_types_flatten_8_u : Gr X K s r_types_flatten_8 r_types_flatten_8_o [0, 3, 9, 10, 34, 35, 36] := go_region _ _
@[go_sem] def r_types_flatten_9_o : Ops := [
oo 51 (.bin .add (.t 36) (ci 1)), oo 36 (.mv (.t 51))]
def r_types_flatten_9 := rg r_types_flatten_9_o [0, 3, 9, 10, 34, 35, 36]
@[go_sem] theorem r_types_flatten_9_u : Gr X K s r_types_flatten_9 r_types_flatten_9_o [0, 3, 9, 10, 34, 35, 36] := go_region _ _
def b_types_flatten_10 : ICode := (.seq r_types_flatten_5 (.seq (.cond (.t 37) .skip (.exit 0)) (.seq (.block 1 (.seq (.seq (.free 12) r_types_flatten_6) (.seq r_types_flatten_7 r_types_flatten_8))) r_types_flatten_9)))
@[go_sem] theorem b_types_flatten_10_u : Gn X K s b_types_flatten_10 (.seq r_types_flatten_5 (.seq (.cond (.t 37) .skip (.exit 0)) (.seq (.block 1 (.seq (.seq (.free 12) r_types_flatten_6) (.seq r_types_flatten_7 r_types_flatten_8))) r_types_flatten_9))) := rfl
@[go_sem] def r_types_flatten_11_o : Ops := [
oo 52 (.mv (.t 0)), oo 53 (.mv (.t 9)), oo 54 (.mv (.t 10)), oo 55 (.call false n_slices_Clip_Sint_int [(.t 54)]), oo 56 (.idxA 8 (.t 52) (.t 53)), oo 57 (.fieldA 1 (.t 56)), ow (.store 1 (.t 57) (.t 55))]
def r_types_flatten_11 := rg r_types_flatten_11_o [0]
@[go_sem] theorem r_types_flatten_11_u : Gr X K s r_types_flatten_11 r_types_flatten_11_o [0] := go_region _ _
@[go_sem] def r_types_flatten_12_o : Ops := [
oo 58 (.mv (.t 0)), oo 8 (.asg (.t 58))]
def r_types_flatten_12 := rg r_types_flatten_12_o [8]
@[go_sem] theorem r_types_flatten_12_u : Gr X K s r_types_flatten_12 r_types_flatten_12_o [8] := go_region _ _
def c_types_flatten : ICode := (.seq r_types_flatten_0 (.seq r_types_flatten_1 (.seq r_types_flatten_2 (.seq r_types_flatten_3 (.seq (.seq r_types_flatten_4 (.block 0 (.loop b_types_flatten_10))) (.seq (.seq (.demote [10]) r_types_flatten_11) (.seq r_types_flatten_12 .ret)))))))
def i_types_flatten : IFunc := ⟨4, [.t 8], c_types_flatten⟩
def a_types_flatten : Advice := ⟨[32, 44, 50], [(11, [8]), (10, [0]), (9, [0, 3, 9, 10, 34, 35, 36]), (8, [0, 3, 9, 10, 34, 35, 36]), (7, [0, 3, 9, 10, 12, 34, 35, 36]), (6, [0, 3, 9, 10, 12, 34, 35, 36]), (5, [0, 3, 9, 10, 34, 35, 36, 37]), (4, [0, 3, 9, 10, 34, 35, 36]), (3, [0, 3, 5, 9, 10]), (2, [0, 3, 5, 9]), (1, [0, 2, 3, 5, 9]), (0, [0, 2, 3, 5])], [(10, [10])], [(6, [12])], [(50, 0)]⟩
/-! ingot/types.right -/
@[go_sem] def r_types_right_0_o : Ops := [
oo 1 (.box 6 (.t 0)), oo 2 (.asg (.c (.bool false)))]
def r_types_right_0 := rg r_types_right_0_o [1]
@[go_sem] theorem r_types_right_0_u : Gr X K s r_types_right_0 r_types_right_0_o [1] := go_region _ _
@[go_sem] def r_types_right_1_o : Ops := [
oo 3 (.asg (ci 0)), oo 4 (.asg (ci 0)), oo 5 (.asg (ci 0)), oo 6 (.asg (.c (.bool false)))]
def r_types_right_1 := rg r_types_right_1_o [1, 3, 4, 5, 6]
@[go_sem] theorem r_types_right_1_u : Gr X K s r_types_right_1 r_types_right_1_o [1, 3, 4, 5, 6] := go_region _ _
@[go_sem] def r_types_right_2_o : Ops := [
oo 7 (.fieldA 0 (.t 1)), oo 8 (.load none (.t 7))]
def r_types_right_2 := rg r_types_right_2_o [1, 3, 4, 5, 6, 8]
@[go_sem] theorem r_types_right_2_u : Gr X K s r_types_right_2 r_types_right_2_o [1, 3, 4, 5, 6, 8] := go_region _ _
@[go_sem] def r_types_right_3_o : Ops := [
oo 10 (.bin .eql (.t 8) (ci 11)), oo 9 (.asg (.t 10))]
def r_types_right_3 := rg r_types_right_3_o [1, 3, 4, 5, 6, 8, 9]
@[go_sem] theorem r_types_right_3_u : Gr X K s r_types_right_3 r_types_right_3_o [1, 3, 4, 5, 6, 8, 9] := go_region _ _
@[go_sem] def r_types_right_4_o : Ops := [
oo 12 (.bin .eql (.t 8) (ci 10)), oo 11 (.asg (.t 12))]
def r_types_right_4 := rg r_types_right_4_o [1, 3, 4, 5, 6, 8, 11]
@[go_sem] theorem r_types_right_4_u : Gr X K s r_types_right_4 r_types_right_4_o [1, 3, 4, 5, 6, 8, 11] := go_region _ _
@[go_sem] def r_types_right_5_o : Ops := [
oo 14 (.bin .eql (.t 8) (ci 12)), oo 13 (.asg (.t 14))]
def r_types_right_5 := rg r_types_right_5_o [1, 3, 4, 5, 6, 8, 13]
@[go_sem] theorem r_types_right_5_u : Gr X K s r_types_right_5 r_types_right_5_o [1, 3, 4, 5, 6, 8, 13] := go_region _ _
@[go_sem] def r_types_right_6_o : Ops := [
oo 16 (.bin .eql (.t 8) (ci 13)), oo 15 (.asg (.t 16))]
def r_types_right_6 := rg r_types_right_6_o [1, 3, 4, 5, 6, 8, 15]
@[go_sem] theorem r_types_right_6_u : Gr X K s r_types_right_6 r_types_right_6_o [1, 3, 4, 5, 6, 8, 15] := go_region _ _
@[go_sem] def r_types_right_7_o : Ops := [
oo 18 (.bin .eql (.t 8) (ci 16)), oo 17 (.asg (.t 18))]
def r_types_right_7 := rg r_types_right_7_o [1, 3, 4, 5, 6, 8, 17]
@[go_sem] theorem r_types_right_7_u : Gr X K s r_types_right_7 r_types_right_7_o [1, 3, 4, 5, 6, 8, 17] := go_region _ _
@[go_sem] def r_types_right_8_o : Ops := [
oo 19 (.bin .eql (.t 8) (ci 17)), oo 17 (.asg (.t 19))]
def r_types_right_8 := rg r_types_right_8_o [1, 3, 4, 5, 6, 8, 17]
@[go_sem] theorem r_types_right_8_u : Gr X K s r_types_right_8 r_types_right_8_o [1, 3, 4, 5, 6, 8, 17] := go_region _ _
@[go_sem] def r_types_right_9_o : Ops := [
oo 21 (.bin .eql (.t 8) (ci 14)), oo 20 (.asg (.t 21))]
def r_types_right_9 := rg r_types_right_9_o [1, 3, 4, 5, 6, 20]
@[go_sem] theorem r_types_right_9_u : Gr X K s r_types_right_9 r_types_right_9_o [1, 3, 4, 5, 6, 20] := go_region _ _
@[go_sem] def r_types_right_10_o : Ops := [
oo 22 (.mv (.t 3)), oo 23 (.bin .add (.t 22) (ci 1)), oo 3 (.asg (.t 23))]
def r_types_right_10 := rg r_types_right_10_o [1, 3, 4, 5, 6]
@[go_sem] theorem r_types_right_10_u : Gr X K s r_types_right_10 r_types_right_10_o [1, 3, 4, 5, 6] := go_region _ _
@[go_sem] def r_types_right_11_o : Ops := [
oo 24 (.mv (.t 3)), oo 25 (.bin .add (.t 24) (ci 1)), oo 3 (.asg (.t 25))]
def r_types_right_11 := rg r_types_right_11_o [1, 3, 4, 5, 6]
@[go_sem] theorem r_types_right_11_u : Gr X K s r_types_right_11 r_types_right_11_o [1, 3, 4, 5, 6] := go_region _ _
@[go_sem] def r_types_right_12_o : Ops := [
oo 26 (.fieldA 1 (.t 1)), oo 27 (.load none (.t 26)), oo 28 (.len false (.t 27)), oo 29 (.fieldA 1 (.t 1)), oo 30 (.load none (.t 29)), oo 31 (.len false (.t 30)), oo 3 (.asg (.t 28)), oo 4 (.asg (.t 31))]
def r_types_right_12_n : List (Nat × Nat) := [(0, 3), (1, 3), (2, 3), (0, 4), (1, 4), (2, 4), (0, 5), (1, 5), (2, 5), (3, 6), (4, 6), (5, 6)]
def r_types_right_12 : ICode := .region r_types_right_12_o r_types_right_12_n [1, 3, 4, 5, 6]
@[go_sem] theorem r_types_right_12_u : go X (.c r_types_right_12 :: K) s = goRU X [] r_types_right_12_n r_types_right_12_o [1, 3, 4, 5, 6] K s := go_regionU' _ _ _ _
@[go_sem] def r_types_right_13_o : Ops := [
oo 32 (.fieldA 2 (.t 1)), oo 33 (.load none (.t 32)), oo 34 (.len false (.t 33)), oo 3 (.asg (.t 34))]
def r_types_right_13 := rg r_types_right_13_o [1, 3, 4, 5, 6]
@[go_sem] theorem r_types_right_13_u : Gr X K s r_types_right_13 r_types_right_13_o [1, 3, 4, 5, 6] := go_region _ _
@[go_sem] def r_types_right_14_o : Ops := [
oo 35 (.mv (.t 3)), oo 36 (.bin .lss (.t 35) (ci 1)), oo 37 (.mv (.t 36)), og 38 37 false (.mv (.t 3)), og 39 37 false (.bin .gtr (.t 38) (ci 255)), oo 40 (.pick (.t 37) (.c (.bool true)) (.t 39))]
def r_types_right_14 := rg r_types_right_14_o [1, 3, 4, 5, 6, 40]
@[go_sem] theorem r_types_right_14_u : Gr X K s r_types_right_14 r_types_right_14_o [1, 3, 4, 5, 6, 40] := go_region _ _
@[go_sem] def r_types_right_15_o : Ops := [
oo 2 (.asg (.c (.bool false)))]
def r_types_right_15 := rg r_types_right_15_o [2]
@[go_sem] theorem r_types_right_15_u : Gr X K s r_types_right_15 r_types_right_15_o [2] := go_region _ _
@[go_sem] def r_types_right_16_o : Ops := [
oo 41 (.fieldA 3 (.t 1)), oo 42 (.load none (.t 41)), oo 5 (.asg (.t 42))]
def r_types_right_16 := rg r_types_right_16_o [1, 3, 4, 5, 6]
@[go_sem] theorem r_types_right_16_u : Gr X K s r_types_right_16 r_types_right_16_o [1, 3, 4, 5, 6] := go_region _ _
@[go_sem] def r_types_right_17_o : Ops := [
oo 43 (.mv (.t 5)), oo 44 (.bin .lss (.t 43) (ci 1)), oo 45 (.mv (.t 44)), og 46 45 false (.mv (.t 5)), og 47 45 false (.bin .gtr (.t 46) (ci 4096)), oo 48 (.pick (.t 45) (.c (.bool true)) (.t 47))]
def r_types_right_17 := rg r_types_right_17_o [1, 3, 4, 5, 6, 48]
@[go_sem] theorem r_types_right_17_u : Gr X K s r_types_right_17 r_types_right_17_o [1, 3, 4, 5, 6, 48] := go_region _ _
@[go_sem] def r_types_right_18_o : Ops := [
oo 2 (.asg (.c (.bool false)))]
def r_types_right_18 := rg r_types_right_18_o [2]
@[go_sem] theorem r_types_right_18_u : Gr X K s r_types_right_18 r_types_right_18_o [2] := go_region _ _
@[go_sem] def r_types_right_19_o : Ops := [
oo 6 (.asg (.c (.bool true)))]
def r_types_right_19 := rg r_types_right_19_o [1, 3, 4, 5, 6]
@[go_sem] theorem r_types_right_19_u : Gr X K s r_types_right_19 r_types_right_19_o [1, 3, 4, 5, 6] := go_region _ _
@[go_sem] def r_types_right_20_o : Ops := [
oo 49 (.fieldA 2 (.t 1)), oo 50 (.load none (.t 49)), oo 51 (.len false (.t 50)), oo 52 (.mv (.t 3)), oo 53 (.bin .neq (.t 51) (.t 52)), oo 54 (.mv (.t 53)), og 55 54 false (.fieldA 1 (.t 1)), og 56 54 false (.load none (.t 55)), og 57 54 false (.len false (.t 56)), og 58 54 false (.mv (.t 4)), og 59 54 false (.bin .neq (.t 57) (.t 58)), oo 60 (.pick (.t 54) (.c (.bool true)) (.t 59)), oo 61 (.mv (.t 60)), og 62 61 false (.fieldA 3 (.t 1)), og 63 61 false (.load none (.t 62)), og 64 61 false (.mv (.t 5)), og 65 61 false (.bin .neq (.t 63) (.t 64)), oo 66 (.pick (.t 61) (.c (.bool true)) (.t 65)), oo 67 (.mv (.t 66)), og 68 67 false (.fieldA 1 (.t 1)), og 69 67 false (.load none (.t 68)), og 70 67 false (.call false n_types_names [(.t 69)]), og 71 67 false (.un .not (.t 70)), oo 72 (.pick (.t 67) (.c (.bool true)) (.t 71))]
def r_types_right_20 := rg r_types_right_20_o [1, 6, 72]
@[go_sem] theorem r_types_right_20_u : Gr X K s r_types_right_20 r_types_right_20_o [1, 6, 72] := go_region _ _
@[go_sem] def r_types_right_21_o : Ops := [
oo 2 (.asg (.c (.bool false)))]
def r_types_right_21 := rg r_types_right_21_o [2]
@[go_sem] theorem r_types_right_21_u : Gr X K s r_types_right_21 r_types_right_21_o [2] := go_region _ _
@[go_sem] def r_types_right_22_o : Ops := [
oo 73 (.mv (.t 6))]
def r_types_right_22 := rg r_types_right_22_o [1, 73]
@[go_sem] theorem r_types_right_22_u : Gr X K s r_types_right_22 r_types_right_22_o [1, 73] := go_region _ _
@[go_sem] def r_types_right_23_o : Ops := [
oo 74 (.fieldA 4 (.t 1)), oo 75 (.load none (.t 74)), oo 76 (.bin .geq (.t 75) (ci 1)), oo 77 (.mv (.t 76)), og 78 77 true (.fieldA 4 (.t 1)), og 79 77 true (.load none (.t 78)), og 80 77 true (.bin .leq (.t 79) (ci 18)), oo 81 (.pick (.t 77) (.t 80) (.c (.bool false))), oo 82 (.mv (.t 81)), og 83 82 true (.fieldA 5 (.t 1)), og 84 82 true (.load none (.t 83)), og 85 82 true (.bin .geq (.t 84) (ci 0)), oo 86 (.pick (.t 82) (.t 85) (.c (.bool false))), oo 87 (.mv (.t 86)), og 88 87 true (.fieldA 5 (.t 1)), og 89 87 true (.load none (.t 88)), og 90 87 true (.fieldA 4 (.t 1)), og 91 87 true (.load none (.t 90)), og 92 87 true (.bin .leq (.t 89) (.t 91)), oo 93 (.pick (.t 87) (.t 92) (.c (.bool false))), oo 2 (.asg (.t 93))]
def r_types_right_23 := rg r_types_right_23_o [2]
@[go_sem] theorem r_types_right_23_u : Gr X K s r_types_right_23 r_types_right_23_o [2] := go_region _ _
@[go_sem] def r_types_right_24_o : Ops := [
oo 94 (.fieldA 4 (.t 1)), oo 95 (.load none (.t 94)), oo 96 (.bin .eql (.t 95) (ci 0)), oo 97 (.mv (.t 96)), og 98 97 true (.fieldA 5 (.t 1)), og 99 97 true (.load none (.t 98)), og 100 97 true (.bin .eql (.t 99) (ci 0)), oo 101 (.pick (.t 97) (.t 100) (.c (.bool false))), oo 2 (.asg (.t 101))]
def r_types_right_24 := rg r_types_right_24_o [2]
@[go_sem] theorem r_types_right_24_u : Gr X K s r_types_right_24 r_types_right_24_o [2] := go_region _ _
def c_types_right : ICode := (.seq r_types_right_0 (.seq r_types_right_1 (.seq (.seq r_types_right_2 (.block 0 (.seq (.block 6 (.seq (.block 5 (.seq (.block 4 (.seq (.block 3 (.seq (.block 2 (.seq (.block 1 (.seq (.seq (.seq r_types_right_3 (.cond (.t 9) (.exit 1) .skip)) (.seq (.seq r_types_right_4 (.cond (.t 11) (.exit 2) .skip)) (.seq (.seq r_types_right_5 (.cond (.t 13) (.exit 3) .skip)) (.seq (.seq r_types_right_6 (.cond (.t 15) (.exit 4) .skip)) (.seq (.seq (.seq r_types_right_7 (.cond (.t 17) .skip r_types_right_8)) (.cond (.t 17) (.exit 5) .skip)) (.seq r_types_right_9 (.cond (.t 20) (.exit 6) .skip))))))) (.exit 0))) r_types_right_10)) (.seq r_types_right_11 (.exit 0)))) (.seq r_types_right_12 (.exit 0)))) (.seq (.seq r_types_right_13 (.seq r_types_right_14 (.cond (.t 40) (.seq r_types_right_15 .ret) .skip))) (.exit 0)))) (.seq (.seq r_types_right_16 (.seq r_types_right_17 (.cond (.t 48) (.seq r_types_right_18 .ret) .skip))) (.exit 0)))) (.seq r_types_right_19 (.exit 0))))) (.seq r_types_right_20 (.cond (.t 72) (.seq r_types_right_21 .ret) (.seq r_types_right_22 (.cond (.t 73) (.seq r_types_right_23 .ret) (.seq r_types_right_24 .ret))))))))
def i_types_right : IFunc := ⟨1, [.t 2], c_types_right⟩
def a_types_right : Advice := ⟨[], [(24, [2]), (23, [2]), (22, [1, 73]), (21, [2]), (20, [1, 6, 72]), (19, [1, 3, 4, 5, 6]), (18, [2]), (17, [1, 3, 4, 5, 6, 48]), (16, [1, 3, 4, 5, 6]), (15, [2]), (14, [1, 3, 4, 5, 6, 40]), (13, [1, 3, 4, 5, 6]), (12, [1, 3, 4, 5, 6]), (11, [1, 3, 4, 5, 6]), (10, [1, 3, 4, 5, 6]), (9, [1, 3, 4, 5, 6, 20]), (8, [1, 3, 4, 5, 6, 8, 17]), (7, [1, 3, 4, 5, 6, 8, 17]), (6, [1, 3, 4, 5, 6, 8, 15]), (5, [1, 3, 4, 5, 6, 8, 13]), (4, [1, 3, 4, 5, 6, 8, 11]), (3, [1, 3, 4, 5, 6, 8, 9]), (2, [1, 3, 4, 5, 6, 8]), (1, [1, 3, 4, 5, 6]), (0, [1])], [], [], []⟩
/-! ingot/types.walk -/
@[go_sem] def r_types_walk_0_o : Ops := [
oo 3 (.box 6 (.t 0)), oo 6 (.asg (ci 0))]
def r_types_walk_0 := rg r_types_walk_0_o [1, 2, 3]
@[go_sem] theorem r_types_walk_0_u : Gr X K s r_types_walk_0 r_types_walk_0_o [1, 2, 3] := go_region _ _
@[go_sem] def r_types_walk_1_o : Ops := [
oo 11 (.mv (.t 1)), oo 12 (.bin .gtr (.t 11) (ci 16)), oo 13 (.mv (.t 12)), og 14 13 false (.mv (.t 2)), og 15 13 false (.nilck (.t 14)), og 16 13 false (.load none (.t 15)), og 17 13 false (.bin .geq (.t 16) (ci 100)), oo 18 (.pick (.t 13) (.c (.bool true)) (.t 17)), oo 10 (.asg (.t 18))]
def r_types_walk_1 := rg r_types_walk_1_o [1, 2, 3, 10]
@[go_sem] theorem r_types_walk_1_u : Gr X K s r_types_walk_1 r_types_walk_1_o [1, 2, 3, 10] := go_region _ _
@[go_sem] def r_types_walk_2_o : Ops := [
oo 6 (.asg (ci 4))]
def r_types_walk_2 := rg r_types_walk_2_o [6]
@[go_sem] theorem r_types_walk_2_u : Gr X K s r_types_walk_2 r_types_walk_2_o [6] := go_region _ _
@[go_sem] def r_types_walk_3_o : Ops := [
oo 20 (.fieldA 0 (.t 3)), oo 21 (.load none (.t 20)), oo 22 (.bin .eql (.t 21) (ci 5)), oo 23 (.mv (.t 22)), og 24 23 false (.fieldA 0 (.t 3)), og 25 23 false (.load none (.t 24)), og 26 23 false (.bin .eql (.t 25) (ci 6)), oo 27 (.pick (.t 23) (.c (.bool true)) (.t 26)), oo 19 (.asg (.t 27))]
def r_types_walk_3 := rg r_types_walk_3_o [1, 2, 3, 19]
@[go_sem] theorem r_types_walk_3_u : Gr X K s r_types_walk_3 r_types_walk_3_o [1, 2, 3, 19] := go_region _ _
@[go_sem] def r_types_walk_4_o : Ops := [
oo 6 (.asg (ci 5))]
def r_types_walk_4 := rg r_types_walk_4_o [6]
@[go_sem] theorem r_types_walk_4_u : Gr X K s r_types_walk_4 r_types_walk_4_o [6] := go_region _ _
@[go_sem] def r_types_walk_5_o : Ops := [
oo 29 (.fieldA 0 (.t 3)), oo 30 (.load none (.t 29)), oo 31 (.bin .lss (.t 30) (ci 0)), oo 32 (.mv (.t 31)), og 33 32 false (.fieldA 0 (.t 3)), og 34 32 false (.load none (.t 33)), og 35 32 false (.bin .gtr (.t 34) (ci 17)), oo 36 (.pick (.t 32) (.c (.bool true)) (.t 35)), oo 37 (.mv (.t 36)), og 38 37 false (.load (some 6) (.t 3)), og 39 37 false (.call false n_types_right [(.t 38)]), og 40 37 false (.un .not (.t 39)), oo 41 (.pick (.t 37) (.c (.bool true)) (.t 40)), oo 28 (.asg (.t 41))]
def r_types_walk_5 := rg r_types_walk_5_o [1, 2, 3, 28]
@[go_sem] theorem r_types_walk_5_u : Gr X K s r_types_walk_5 r_types_walk_5_o [1, 2, 3, 28] := go_region _ _
@[go_sem] def r_types_walk_6_o : Ops := [
oo 6 (.asg (ci 1))]
def r_types_walk_6 := rg r_types_walk_6_o [6]
@[go_sem] theorem r_types_walk_6_u : Gr X K s r_types_walk_6 r_types_walk_6_o [6] := go_region _ _
@[go_sem] def r_types_walk_7_o : Ops := [
oo 42 (.mv (.t 2)), oo 43 (.nilck (.t 42)), oo 44 (.load none (.t 43)), oo 45 (.bin .add (.t 44) (ci 1)), oo 46 (.nilck (.t 42)), ow (.store 1 (.t 46) (.t 45))]
def r_types_walk_7 := rg r_types_walk_7_o [1, 2, 3]
@[go_sem] theorem r_types_walk_7_u : Gr X K s r_types_walk_7 r_types_walk_7_o [1, 2, 3] := go_region _ _
@[go_sem] def r_types_walk_8_o : Ops := [
oo 47 (.fieldA 2 (.t 3)), oo 48 (.load none (.t 47)), oo 49 (.len false (.t 48)), oo 50 (.mv (ci 0))]
def r_types_walk_8 := rg r_types_walk_8_o [1, 2, 48, 49, 50]
@[go_sem] theorem r_types_walk_8_u : Gr X K s r_types_walk_8 r_types_walk_8_o [1, 2, 48, 49, 50] := go_region _ _
@[go_sem] def r_types_walk_9_o : Ops := [
oo 51 (.bin .lss (.t 50) (.t 49))]
def r_types_walk_9 := rg r_types_walk_9_o [1, 2, 48, 49, 50, 51]
@[go_sem] theorem r_types_walk_9_u : Gr X K s r_types_walk_9 r_types_walk_9_o [1, 2, 48, 49, 50, 51] := go_region _ _
@[go_sem] def r_types_walk_10_o : Ops := [
oo 52 (.idxA 6 (.t 48) (.t 50)), oo 53 (.load (some 6) (.t 52)), oo 8 (.alloc [(.int .i64 0), .nilS, .nilS, (.int .i64 0), (.int .i64 0), (.int .i64 0)]), ow (.store 6 (.t 8) (.t 53))]
def r_types_walk_10 := rg r_types_walk_10_o [1, 2, 8, 48, 49, 50]
@[go_sem] theorem r_types_walk_10_u : Gr X K s r_types_walk_10 r_types_walk_10_o [1, 2, 8, 48, 49, 50] := go_region _ _
@[go_sem] def r_types_walk_11_o : Ops := [
oo 54 (.load (some 6) (.t 8)), oo 55 (.mv (.t 1)), oo 56 (.bin .add (.t 55) (ci 1)), oo 57 (.mv (.t 2)), oo 58 (.call false n_types_walk [(.t 54), (.t 56), (.t 57)]), oo 9 (.asg (.t 58))]
def r_types_walk_11 := rg r_types_walk_11_o [1, 2, 9, 48, 49, 50]
@[go_sem] theorem r_types_walk_11_u : Gr X K s r_types_walk_11 r_types_walk_11_o [1, 2, 9, 48, 49, 50] := go_region _ _
@[go_sem] def r_types_walk_12_o : Ops := [
oo 59 (.mv (.t 9)), oo 60 (.bin .neq (.t 59) (ci 0))]
def r_types_walk_12 := rg r_types_walk_12_o [1, 2, 9, 48, 49, 50, 60]
@[go_sem] theorem r_types_walk_12_u : Gr X K s r_types_walk_12 r_types_walk_12_o [1, 2, 9, 48, 49, 50, 60] := go_region _ _
@[go_sem] def r_types_walk_13_o : Ops := [
oo 61 (.mv (.t 9)), oo 6 (.asg (.t 61))]
def r_types_walk_13 := rg r_types_walk_13_o [6]
@[go_sem] theorem r_types_walk_13_u : Gr X K s r_types_walk_13 r_types_walk_13_o [6] := go_region _ _
@[go_sem] def r_types_walk_14_o : Ops := [
oo 62 (.bin .add (.t 50) (ci 1)), oo 50 (.mv (.t 62))]
def r_types_walk_14 := rg r_types_walk_14_o [1, 2, 48, 49, 50]
@[go_sem] theorem r_types_walk_14_u : Gr X K s r_types_walk_14 r_types_walk_14_o [1, 2, 48, 49, 50] := go_region _ _
def b_types_walk_15 : ICode := (.seq r_types_walk_9 (.seq (.cond (.t 51) .skip (.exit 1)) (.seq (.block 2 (.seq (.seq (.free 8) r_types_walk_10) (.seq r_types_walk_11 (.seq r_types_walk_12 (.cond (.t 60) (.seq r_types_walk_13 .ret) .skip))))) r_types_walk_14)))
@[go_sem] theorem b_types_walk_15_u : Gn X K s b_types_walk_15 (.seq r_types_walk_9 (.seq (.cond (.t 51) .skip (.exit 1)) (.seq (.block 2 (.seq (.seq (.free 8) r_types_walk_10) (.seq r_types_walk_11 (.seq r_types_walk_12 (.cond (.t 60) (.seq r_types_walk_13 .ret) .skip))))) r_types_walk_14))) := rfl
@[go_sem] def r_types_walk_16_o : Ops := [
oo 6 (.asg (ci 0))]
def r_types_walk_16 := rg r_types_walk_16_o [6]
@[go_sem] theorem r_types_walk_16_u : Gr X K s r_types_walk_16 r_types_walk_16_o [6] := go_region _ _
def c_types_walk : ICode := (.seq r_types_walk_0 (.seq (.block 0 (.seq r_types_walk_1 (.cond (.t 10) (.seq r_types_walk_2 .ret) (.seq r_types_walk_3 (.cond (.t 19) (.seq r_types_walk_4 .ret) (.seq r_types_walk_5 (.cond (.t 28) (.seq r_types_walk_6 .ret) .skip))))))) (.seq r_types_walk_7 (.seq (.seq r_types_walk_8 (.block 1 (.loop b_types_walk_15))) (.seq r_types_walk_16 .ret)))))
def i_types_walk : IFunc := ⟨3, [.t 6], c_types_walk⟩
def a_types_walk : Advice := ⟨[], [(15, [6]), (14, [1, 2, 48, 49, 50]), (13, [6]), (12, [1, 2, 9, 48, 49, 50, 60]), (11, [1, 2, 9, 48, 49, 50]), (10, [1, 2, 8, 48, 49, 50]), (9, [1, 2, 48, 49, 50, 51]), (8, [1, 2, 48, 49, 50]), (7, [1, 2, 3]), (2, [6]), (4, [6]), (6, [6]), (5, [1, 2, 3, 28]), (3, [1, 2, 3, 19]), (1, [1, 2, 3, 10]), (0, [1, 2, 3])], [], [(10, [8])], []⟩
/-! ingot/types.Check -/
@[go_sem] def r_types_Check_0_o : Ops := [
oo 1 (.box 6 (.t 0)), oo 2 (.asg (ci 0))]
def r_types_Check_0 := rg r_types_Check_0_o [1]
@[go_sem] theorem r_types_Check_0_u : Gr X K s r_types_Check_0 r_types_Check_0_o [1] := go_region _ _
@[go_sem] def r_types_Check_1_o : Ops := [
oo 3 (.alloc [(.int .i64 0)]), ow (.store 1 (.t 3) (ci 0))]
def r_types_Check_1 := rg r_types_Check_1_o [1, 3]
@[go_sem] theorem r_types_Check_1_u : Gr X K s r_types_Check_1 r_types_Check_1_o [1, 3] := go_region _ _
@[go_sem] def r_types_Check_2_o : Ops := [
oo 4 (.load (some 6) (.t 1)), oo 5 (.call false n_types_walk [(.t 4), (ci 1), (.t 3)]), oo 2 (.asg (.t 5))]
def r_types_Check_2 := rg r_types_Check_2_o [2]
@[go_sem] theorem r_types_Check_2_u : Gr X K s r_types_Check_2 r_types_Check_2_o [2] := go_region _ _
def c_types_Check : ICode := (.seq r_types_Check_0 (.seq r_types_Check_1 (.seq r_types_Check_2 .ret)))
def i_types_Check : IFunc := ⟨1, [.t 2], c_types_Check⟩
def a_types_Check : Advice := ⟨[], [(2, [2]), (1, [1, 3]), (0, [1])], [], [], []⟩
/-! ingot/types.Flatten -/
@[go_sem] def r_types_Flatten_0_o : Ops := [
oo 1 (.box 6 (.t 0)), oo 2 (.asg (.c .nilS))]
def r_types_Flatten_0 := rg r_types_Flatten_0_o [1]
@[go_sem] theorem r_types_Flatten_0_u : Gr X K s r_types_Flatten_0 r_types_Flatten_0_o [1] := go_region _ _
@[go_sem] def r_types_Flatten_1_o : Ops := [
oo 3 (.load (some 6) (.t 1)), oo 4 (.call false n_types_Check [(.t 3)]), oo 5 (.bin .neq (.t 4) (ci 0))]
def r_types_Flatten_1 := rg r_types_Flatten_1_o [1, 5]
@[go_sem] theorem r_types_Flatten_1_u : Gr X K s r_types_Flatten_1 r_types_Flatten_1_o [1, 5] := go_region _ _
@[go_sem] def r_types_Flatten_2_o : Ops := [
oo 2 (.asg (.c .nilS))]
def r_types_Flatten_2 := rg r_types_Flatten_2_o [2]
@[go_sem] theorem r_types_Flatten_2_u : Gr X K s r_types_Flatten_2 r_types_Flatten_2_o [2] := go_region _ _
@[go_sem] def r_types_Flatten_3_o : Ops := [
oo 6 (.load (some 6) (.t 1)), oo 7 (.callg false n_types_flatten [(.c .nilS), (.t 6), (ci (-1)), (ci 1)] 0), oo 8 (.call false n_slices_Clip_Stypes_Node_types_Node [(.t 7)]), oo 2 (.asg (.t 8))]
def r_types_Flatten_3 := rg r_types_Flatten_3_o [2]
@[go_sem] theorem r_types_Flatten_3_u : Gr X K s r_types_Flatten_3 r_types_Flatten_3_o [2] := go_region _ _
def c_types_Flatten : ICode := (.seq r_types_Flatten_0 (.seq r_types_Flatten_1 (.cond (.t 5) (.seq r_types_Flatten_2 .ret) (.seq r_types_Flatten_3 .ret))))
def i_types_Flatten : IFunc := ⟨1, [.t 2], c_types_Flatten⟩
def a_types_Flatten : Advice := ⟨[], [(3, [2]), (2, [2]), (1, [1, 5]), (0, [1])], [], [], [(7, 0)]⟩
/-! cmp.Or[int] -/
@[go_sem] def r_cmp_Or_int_0_o : Ops := [
oo 2 (.asg (ci 0))]
def r_cmp_Or_int_0 := rg r_cmp_Or_int_0_o [0]
@[go_sem] theorem r_cmp_Or_int_0_u : Gr X K s r_cmp_Or_int_0 r_cmp_Or_int_0_o [0] := go_region _ _
@[go_sem] def r_cmp_Or_int_1_o : Ops := [
oo 3 (.asg (ci 0))]
def r_cmp_Or_int_1 := rg r_cmp_Or_int_1_o [0, 3]
@[go_sem] theorem r_cmp_Or_int_1_u : Gr X K s r_cmp_Or_int_1 r_cmp_Or_int_1_o [0, 3] := go_region _ _
@[go_sem] def r_cmp_Or_int_2_o : Ops := [
oo 6 (.mv (.t 0)), oo 7 (.len false (.t 6)), oo 8 (.mv (ci 0))]
def r_cmp_Or_int_2 := rg r_cmp_Or_int_2_o [3, 6, 7, 8]
@[go_sem] theorem r_cmp_Or_int_2_u : Gr X K s r_cmp_Or_int_2 r_cmp_Or_int_2_o [3, 6, 7, 8] := go_region _ _
@[go_sem] def r_cmp_Or_int_3_o : Ops := [
oo 9 (.bin .lss (.t 8) (.t 7))]
def r_cmp_Or_int_3 := rg r_cmp_Or_int_3_o [3, 6, 7, 8, 9]
@[go_sem] theorem r_cmp_Or_int_3_u : Gr X K s r_cmp_Or_int_3 r_cmp_Or_int_3_o [3, 6, 7, 8, 9] := go_region _ _
@[go_sem] def r_cmp_Or_int_4_o : Ops := [
oo 10 (.idxA 1 (.t 6) (.t 8)), oo 11 (.load none (.t 10)), oo 5 (.asg (.t 11))]
def r_cmp_Or_int_4 := rg r_cmp_Or_int_4_o [3, 5, 6, 7, 8]
@[go_sem] theorem r_cmp_Or_int_4_u : Gr X K s r_cmp_Or_int_4 r_cmp_Or_int_4_o [3, 5, 6, 7, 8] := go_region _ _
@[go_sem] def r_cmp_Or_int_5_o : Ops := [
oo 12 (.mv (.t 5)), oo 13 (.mv (.t 3)), oo 14 (.bin .neq (.t 12) (.t 13))]
def r_cmp_Or_int_5 := rg r_cmp_Or_int_5_o [3, 5, 6, 7, 8, 14]
@[go_sem] theorem r_cmp_Or_int_5_u : Gr X K s r_cmp_Or_int_5 r_cmp_Or_int_5_o [3, 5, 6, 7, 8, 14] := go_region _ _
@[go_sem] def r_cmp_Or_int_6_o : Ops := [
oo 15 (.mv (.t 5)), oo 2 (.asg (.t 15))]
def r_cmp_Or_int_6 := rg r_cmp_Or_int_6_o [2]
@[go_sem] theorem r_cmp_Or_int_6_u : Gr X K s r_cmp_Or_int_6 r_cmp_Or_int_6_o [2] := go_region _ _
@[go_sem] def r_cmp_Or_int_7_o : Ops := [
oo 16 (.bin .add (.t 8) (ci 1)), oo 8 (.mv (.t 16))]
def r_cmp_Or_int_7 := rg r_cmp_Or_int_7_o [3, 6, 7, 8]
@[go_sem] theorem r_cmp_Or_int_7_u : Gr X K s r_cmp_Or_int_7 r_cmp_Or_int_7_o [3, 6, 7, 8] := go_region _ _
def b_cmp_Or_int_8 : ICode := (.seq r_cmp_Or_int_3 (.seq (.cond (.t 9) .skip (.exit 0)) (.seq (.block 1 (.seq r_cmp_Or_int_4 (.seq r_cmp_Or_int_5 (.cond (.t 14) (.seq r_cmp_Or_int_6 .ret) .skip)))) r_cmp_Or_int_7)))
@[go_sem] theorem b_cmp_Or_int_8_u : Gn X K s b_cmp_Or_int_8 (.seq r_cmp_Or_int_3 (.seq (.cond (.t 9) .skip (.exit 0)) (.seq (.block 1 (.seq r_cmp_Or_int_4 (.seq r_cmp_Or_int_5 (.cond (.t 14) (.seq r_cmp_Or_int_6 .ret) .skip)))) r_cmp_Or_int_7))) := rfl
@[go_sem] def r_cmp_Or_int_9_o : Ops := [
oo 17 (.mv (.t 3)), oo 2 (.asg (.t 17))]
def r_cmp_Or_int_9 := rg r_cmp_Or_int_9_o [2]
@[go_sem] theorem r_cmp_Or_int_9_u : Gr X K s r_cmp_Or_int_9 r_cmp_Or_int_9_o [2] := go_region _ _
def c_cmp_Or_int : ICode := (.seq r_cmp_Or_int_0 (.seq r_cmp_Or_int_1 (.seq (.seq r_cmp_Or_int_2 (.block 0 (.loop b_cmp_Or_int_8))) (.seq r_cmp_Or_int_9 .ret))))
def i_cmp_Or_int : IFunc := ⟨1, [.t 2], c_cmp_Or_int⟩
def a_cmp_Or_int : Advice := ⟨[], [(8, [2]), (7, [3, 6, 7, 8]), (6, [2]), (5, [3, 5, 6, 7, 8, 14]), (4, [3, 5, 6, 7, 8]), (3, [3, 6, 7, 8, 9]), (2, [3, 6, 7, 8]), (1, [0, 3]), (0, [0])], [], [], []⟩
/-! cmp.isNaN[int] -/
@[go_sem] def r_cmp_isNaN_int_0_o : Ops := [
oo 2 (.asg (.c (.bool false)))]
def r_cmp_isNaN_int_0 := rg r_cmp_isNaN_int_0_o [0]
@[go_sem] theorem r_cmp_isNaN_int_0_u : Gr X K s r_cmp_isNaN_int_0 r_cmp_isNaN_int_0_o [0] := go_region _ _
@[go_sem] def r_cmp_isNaN_int_1_o : Ops := [
oo 3 (.mv (.t 0)), oo 4 (.mv (.t 0)), oo 5 (.bin .neq (.t 3) (.t 4)), oo 2 (.asg (.t 5))]
def r_cmp_isNaN_int_1 := rg r_cmp_isNaN_int_1_o [2]
@[go_sem] theorem r_cmp_isNaN_int_1_u : Gr X K s r_cmp_isNaN_int_1 r_cmp_isNaN_int_1_o [2] := go_region _ _
def c_cmp_isNaN_int : ICode := (.seq r_cmp_isNaN_int_0 (.seq r_cmp_isNaN_int_1 .ret))
def i_cmp_isNaN_int : IFunc := ⟨1, [.t 2], c_cmp_isNaN_int⟩
def a_cmp_isNaN_int : Advice := ⟨[], [(1, [2]), (0, [0])], [], [], []⟩
/-! cmp.Compare[int] -/
@[go_sem] def r_cmp_Compare_int_0_o : Ops := [
oo 4 (.asg (ci 0))]
def r_cmp_Compare_int_0 := rg r_cmp_Compare_int_0_o [0, 1]
@[go_sem] theorem r_cmp_Compare_int_0_u : Gr X K s r_cmp_Compare_int_0 r_cmp_Compare_int_0_o [0, 1] := go_region _ _
@[go_sem] def r_cmp_Compare_int_1_o : Ops := [
oo 7 (.mv (.t 0)), oo 8 (.call false n_cmp_isNaN_int [(.t 7)]), oo 5 (.asg (.t 8))]
def r_cmp_Compare_int_1 := rg r_cmp_Compare_int_1_o [0, 1, 5]
@[go_sem] theorem r_cmp_Compare_int_1_u : Gr X K s r_cmp_Compare_int_1 r_cmp_Compare_int_1_o [0, 1, 5] := go_region _ _
@[go_sem] def r_cmp_Compare_int_2_o : Ops := [
oo 9 (.mv (.t 1)), oo 10 (.call false n_cmp_isNaN_int [(.t 9)]), oo 6 (.asg (.t 10))]
def r_cmp_Compare_int_2 := rg r_cmp_Compare_int_2_o [0, 1, 5, 6]
@[go_sem] theorem r_cmp_Compare_int_2_u : Gr X K s r_cmp_Compare_int_2 r_cmp_Compare_int_2_o [0, 1, 5, 6] := go_region _ _
@[go_sem] def r_cmp_Compare_int_3_o : Ops := [
oo 11 (.mv (.t 5))]
def r_cmp_Compare_int_3 := rg r_cmp_Compare_int_3_o [0, 1, 6, 11]
@[go_sem] theorem r_cmp_Compare_int_3_u : Gr X K s r_cmp_Compare_int_3 r_cmp_Compare_int_3_o [0, 1, 6, 11] := go_region _ _
@[go_sem] def r_cmp_Compare_int_4_o : Ops := [
oo 12 (.mv (.t 6))]
def r_cmp_Compare_int_4 := rg r_cmp_Compare_int_4_o [12]
@[go_sem] theorem r_cmp_Compare_int_4_u : Gr X K s r_cmp_Compare_int_4 r_cmp_Compare_int_4_o [12] := go_region _ _
@[go_sem] def r_cmp_Compare_int_5_o : Ops := [
oo 4 (.asg (ci 0))]
def r_cmp_Compare_int_5 := rg r_cmp_Compare_int_5_o [4]
@[go_sem] theorem r_cmp_Compare_int_5_u : Gr X K s r_cmp_Compare_int_5 r_cmp_Compare_int_5_o [4] := go_region _ _
@[go_sem] def r_cmp_Compare_int_6_o : Ops := [
oo 4 (.asg (ci (-1)))]
def r_cmp_Compare_int_6 := rg r_cmp_Compare_int_6_o [4]
@[go_sem] theorem r_cmp_Compare_int_6_u : Gr X K s r_cmp_Compare_int_6 r_cmp_Compare_int_6_o [4] := go_region _ _
@[go_sem] def r_cmp_Compare_int_7_o : Ops := [
oo 13 (.mv (.t 6))]
def r_cmp_Compare_int_7 := rg r_cmp_Compare_int_7_o [0, 1, 13]
@[go_sem] theorem r_cmp_Compare_int_7_u : Gr X K s r_cmp_Compare_int_7 r_cmp_Compare_int_7_o [0, 1, 13] := go_region _ _
@[go_sem] def r_cmp_Compare_int_8_o : Ops := [
oo 4 (.asg (ci 1))]
def r_cmp_Compare_int_8 := rg r_cmp_Compare_int_8_o [4]
@[go_sem] theorem r_cmp_Compare_int_8_u : Gr X K s r_cmp_Compare_int_8 r_cmp_Compare_int_8_o [4] := go_region _ _
@[go_sem] def r_cmp_Compare_int_9_o : Ops := [
oo 14 (.mv (.t 0)), oo 15 (.mv (.t 1)), oo 16 (.bin .lss (.t 14) (.t 15))]
def r_cmp_Compare_int_9 := rg r_cmp_Compare_int_9_o [0, 1, 16]
@[go_sem] theorem r_cmp_Compare_int_9_u : Gr X K s r_cmp_Compare_int_9 r_cmp_Compare_int_9_o [0, 1, 16] := go_region _ _
@[go_sem] def r_cmp_Compare_int_10_o : Ops := [
oo 4 (.asg (ci (-1)))]
def r_cmp_Compare_int_10 := rg r_cmp_Compare_int_10_o [4]
@[go_sem] theorem r_cmp_Compare_int_10_u : Gr X K s r_cmp_Compare_int_10 r_cmp_Compare_int_10_o [4] := go_region _ _
@[go_sem] def r_cmp_Compare_int_11_o : Ops := [
oo 17 (.mv (.t 0)), oo 18 (.mv (.t 1)), oo 19 (.bin .gtr (.t 17) (.t 18))]
def r_cmp_Compare_int_11 := rg r_cmp_Compare_int_11_o [19]
@[go_sem] theorem r_cmp_Compare_int_11_u : Gr X K s r_cmp_Compare_int_11 r_cmp_Compare_int_11_o [19] := go_region _ _
@[go_sem] def r_cmp_Compare_int_12_o : Ops := [
oo 4 (.asg (ci 1))]
def r_cmp_Compare_int_12 := rg r_cmp_Compare_int_12_o [4]
@[go_sem] theorem r_cmp_Compare_int_12_u : Gr X K s r_cmp_Compare_int_12 r_cmp_Compare_int_12_o [4] := go_region _ _
@[go_sem] def r_cmp_Compare_int_13_o : Ops := [
oo 4 (.asg (ci 0))]
def r_cmp_Compare_int_13 := rg r_cmp_Compare_int_13_o [4]
@[go_sem] theorem r_cmp_Compare_int_13_u : Gr X K s r_cmp_Compare_int_13 r_cmp_Compare_int_13_o [4] := go_region _ _
def c_cmp_Compare_int : ICode := (.seq r_cmp_Compare_int_0 (.seq r_cmp_Compare_int_1 (.seq r_cmp_Compare_int_2 (.seq r_cmp_Compare_int_3 (.cond (.t 11) (.seq (.seq r_cmp_Compare_int_4 (.cond (.t 12) (.seq r_cmp_Compare_int_5 .ret) .skip)) (.seq r_cmp_Compare_int_6 .ret)) (.seq r_cmp_Compare_int_7 (.cond (.t 13) (.seq r_cmp_Compare_int_8 .ret) (.seq r_cmp_Compare_int_9 (.cond (.t 16) (.seq r_cmp_Compare_int_10 .ret) (.seq r_cmp_Compare_int_11 (.cond (.t 19) (.seq r_cmp_Compare_int_12 .ret) (.seq r_cmp_Compare_int_13 .ret))))))))))))
def i_cmp_Compare_int : IFunc := ⟨2, [.t 4], c_cmp_Compare_int⟩
def a_cmp_Compare_int : Advice := ⟨[], [(13, [4]), (12, [4]), (11, [19]), (10, [4]), (9, [0, 1, 16]), (8, [4]), (7, [0, 1, 13]), (6, [4]), (5, [4]), (4, [12]), (3, [0, 1, 6, 11]), (2, [0, 1, 5, 6]), (1, [0, 1, 5]), (0, [0, 1])], [], [], []⟩
/-! cmp.isNaN[int64] -/
@[go_sem] def r_cmp_isNaN_int64_0_o : Ops := [
oo 2 (.asg (.c (.bool false)))]
def r_cmp_isNaN_int64_0 := rg r_cmp_isNaN_int64_0_o [0]
@[go_sem] theorem r_cmp_isNaN_int64_0_u : Gr X K s r_cmp_isNaN_int64_0 r_cmp_isNaN_int64_0_o [0] := go_region _ _
@[go_sem] def r_cmp_isNaN_int64_1_o : Ops := [
oo 3 (.mv (.t 0)), oo 4 (.mv (.t 0)), oo 5 (.bin .neq (.t 3) (.t 4)), oo 2 (.asg (.t 5))]
def r_cmp_isNaN_int64_1 := rg r_cmp_isNaN_int64_1_o [2]
@[go_sem] theorem r_cmp_isNaN_int64_1_u : Gr X K s r_cmp_isNaN_int64_1 r_cmp_isNaN_int64_1_o [2] := go_region _ _
def c_cmp_isNaN_int64 : ICode := (.seq r_cmp_isNaN_int64_0 (.seq r_cmp_isNaN_int64_1 .ret))
def i_cmp_isNaN_int64 : IFunc := ⟨1, [.t 2], c_cmp_isNaN_int64⟩
def a_cmp_isNaN_int64 : Advice := ⟨[], [(1, [2]), (0, [0])], [], [], []⟩
/-! cmp.Compare[int64] -/
@[go_sem] def r_cmp_Compare_int64_0_o : Ops := [
oo 4 (.asg (ci 0))]
def r_cmp_Compare_int64_0 := rg r_cmp_Compare_int64_0_o [0, 1]
@[go_sem] theorem r_cmp_Compare_int64_0_u : Gr X K s r_cmp_Compare_int64_0 r_cmp_Compare_int64_0_o [0, 1] := go_region _ _
@[go_sem] def r_cmp_Compare_int64_1_o : Ops := [
oo 7 (.mv (.t 0)), oo 8 (.call false n_cmp_isNaN_int64 [(.t 7)]), oo 5 (.asg (.t 8))]
def r_cmp_Compare_int64_1 := rg r_cmp_Compare_int64_1_o [0, 1, 5]
@[go_sem] theorem r_cmp_Compare_int64_1_u : Gr X K s r_cmp_Compare_int64_1 r_cmp_Compare_int64_1_o [0, 1, 5] := go_region _ _
@[go_sem] def r_cmp_Compare_int64_2_o : Ops := [
oo 9 (.mv (.t 1)), oo 10 (.call false n_cmp_isNaN_int64 [(.t 9)]), oo 6 (.asg (.t 10))]
def r_cmp_Compare_int64_2 := rg r_cmp_Compare_int64_2_o [0, 1, 5, 6]
@[go_sem] theorem r_cmp_Compare_int64_2_u : Gr X K s r_cmp_Compare_int64_2 r_cmp_Compare_int64_2_o [0, 1, 5, 6] := go_region _ _
@[go_sem] def r_cmp_Compare_int64_3_o : Ops := [
oo 11 (.mv (.t 5))]
def r_cmp_Compare_int64_3 := rg r_cmp_Compare_int64_3_o [0, 1, 6, 11]
@[go_sem] theorem r_cmp_Compare_int64_3_u : Gr X K s r_cmp_Compare_int64_3 r_cmp_Compare_int64_3_o [0, 1, 6, 11] := go_region _ _
@[go_sem] def r_cmp_Compare_int64_4_o : Ops := [
oo 12 (.mv (.t 6))]
def r_cmp_Compare_int64_4 := rg r_cmp_Compare_int64_4_o [12]
@[go_sem] theorem r_cmp_Compare_int64_4_u : Gr X K s r_cmp_Compare_int64_4 r_cmp_Compare_int64_4_o [12] := go_region _ _
@[go_sem] def r_cmp_Compare_int64_5_o : Ops := [
oo 4 (.asg (ci 0))]
def r_cmp_Compare_int64_5 := rg r_cmp_Compare_int64_5_o [4]
@[go_sem] theorem r_cmp_Compare_int64_5_u : Gr X K s r_cmp_Compare_int64_5 r_cmp_Compare_int64_5_o [4] := go_region _ _
@[go_sem] def r_cmp_Compare_int64_6_o : Ops := [
oo 4 (.asg (ci (-1)))]
def r_cmp_Compare_int64_6 := rg r_cmp_Compare_int64_6_o [4]
@[go_sem] theorem r_cmp_Compare_int64_6_u : Gr X K s r_cmp_Compare_int64_6 r_cmp_Compare_int64_6_o [4] := go_region _ _
@[go_sem] def r_cmp_Compare_int64_7_o : Ops := [
oo 13 (.mv (.t 6))]
def r_cmp_Compare_int64_7 := rg r_cmp_Compare_int64_7_o [0, 1, 13]
@[go_sem] theorem r_cmp_Compare_int64_7_u : Gr X K s r_cmp_Compare_int64_7 r_cmp_Compare_int64_7_o [0, 1, 13] := go_region _ _
@[go_sem] def r_cmp_Compare_int64_8_o : Ops := [
oo 4 (.asg (ci 1))]
def r_cmp_Compare_int64_8 := rg r_cmp_Compare_int64_8_o [4]
@[go_sem] theorem r_cmp_Compare_int64_8_u : Gr X K s r_cmp_Compare_int64_8 r_cmp_Compare_int64_8_o [4] := go_region _ _
@[go_sem] def r_cmp_Compare_int64_9_o : Ops := [
oo 14 (.mv (.t 0)), oo 15 (.mv (.t 1)), oo 16 (.bin .lss (.t 14) (.t 15))]
def r_cmp_Compare_int64_9 := rg r_cmp_Compare_int64_9_o [0, 1, 16]
@[go_sem] theorem r_cmp_Compare_int64_9_u : Gr X K s r_cmp_Compare_int64_9 r_cmp_Compare_int64_9_o [0, 1, 16] := go_region _ _
@[go_sem] def r_cmp_Compare_int64_10_o : Ops := [
oo 4 (.asg (ci (-1)))]
def r_cmp_Compare_int64_10 := rg r_cmp_Compare_int64_10_o [4]
@[go_sem] theorem r_cmp_Compare_int64_10_u : Gr X K s r_cmp_Compare_int64_10 r_cmp_Compare_int64_10_o [4] := go_region _ _
@[go_sem] def r_cmp_Compare_int64_11_o : Ops := [
oo 17 (.mv (.t 0)), oo 18 (.mv (.t 1)), oo 19 (.bin .gtr (.t 17) (.t 18))]
def r_cmp_Compare_int64_11 := rg r_cmp_Compare_int64_11_o [19]
@[go_sem] theorem r_cmp_Compare_int64_11_u : Gr X K s r_cmp_Compare_int64_11 r_cmp_Compare_int64_11_o [19] := go_region _ _
@[go_sem] def r_cmp_Compare_int64_12_o : Ops := [
oo 4 (.asg (ci 1))]
def r_cmp_Compare_int64_12 := rg r_cmp_Compare_int64_12_o [4]
@[go_sem] theorem r_cmp_Compare_int64_12_u : Gr X K s r_cmp_Compare_int64_12 r_cmp_Compare_int64_12_o [4] := go_region _ _
@[go_sem] def r_cmp_Compare_int64_13_o : Ops := [
oo 4 (.asg (ci 0))]
def r_cmp_Compare_int64_13 := rg r_cmp_Compare_int64_13_o [4]
@[go_sem] theorem r_cmp_Compare_int64_13_u : Gr X K s r_cmp_Compare_int64_13 r_cmp_Compare_int64_13_o [4] := go_region _ _
def c_cmp_Compare_int64 : ICode := (.seq r_cmp_Compare_int64_0 (.seq r_cmp_Compare_int64_1 (.seq r_cmp_Compare_int64_2 (.seq r_cmp_Compare_int64_3 (.cond (.t 11) (.seq (.seq r_cmp_Compare_int64_4 (.cond (.t 12) (.seq r_cmp_Compare_int64_5 .ret) .skip)) (.seq r_cmp_Compare_int64_6 .ret)) (.seq r_cmp_Compare_int64_7 (.cond (.t 13) (.seq r_cmp_Compare_int64_8 .ret) (.seq r_cmp_Compare_int64_9 (.cond (.t 16) (.seq r_cmp_Compare_int64_10 .ret) (.seq r_cmp_Compare_int64_11 (.cond (.t 19) (.seq r_cmp_Compare_int64_12 .ret) (.seq r_cmp_Compare_int64_13 .ret))))))))))))
def i_cmp_Compare_int64 : IFunc := ⟨2, [.t 4], c_cmp_Compare_int64⟩
def a_cmp_Compare_int64 : Advice := ⟨[], [(13, [4]), (12, [4]), (11, [19]), (10, [4]), (9, [0, 1, 16]), (8, [4]), (7, [0, 1, 13]), (6, [4]), (5, [4]), (4, [12]), (3, [0, 1, 6, 11]), (2, [0, 1, 5, 6]), (1, [0, 1, 5]), (0, [0, 1])], [], [], []⟩
/-! bytes.Compare -/
@[go_sem] def r_bytes_Compare_0_o : Ops := [
oo 4 (.asg (ci 0))]
def r_bytes_Compare_0 := rg r_bytes_Compare_0_o [0, 1]
@[go_sem] theorem r_bytes_Compare_0_u : Gr X K s r_bytes_Compare_0 r_bytes_Compare_0_o [0, 1] := go_region _ _
@[go_sem] def r_bytes_Compare_1_o : Ops := [
oo 5 (.mv (.t 0)), oo 6 (.mv (.t 1)), oo 7 (.call false n_bytealg_Compare [(.t 5), (.t 6)]), oo 4 (.asg (.t 7))]
def r_bytes_Compare_1 := rg r_bytes_Compare_1_o [4]
@[go_sem] theorem r_bytes_Compare_1_u : Gr X K s r_bytes_Compare_1 r_bytes_Compare_1_o [4] := go_region _ _
def c_bytes_Compare : ICode := (.seq r_bytes_Compare_0 (.seq r_bytes_Compare_1 .ret))
def i_bytes_Compare : IFunc := ⟨2, [.t 4], c_bytes_Compare⟩
def a_bytes_Compare : Advice := ⟨[], [(1, [4]), (0, [0, 1])], [], [], []⟩
/-! ingot/value.text -/
@[go_sem] def r_value_text_0_o : Ops := [
oo 2 (.asg (.c (.bool false)))]
def r_value_text_0 := rg r_value_text_0_o [0]
@[go_sem] theorem r_value_text_0_u : Gr X K s r_value_text_0 r_value_text_0_o [0] := go_region _ _
@[go_sem] def r_value_text_1_o : Ops := [
oo 3 (.mv (.t 0))]
def r_value_text_1 := rg r_value_text_1_o [3]
@[go_sem] theorem r_value_text_1_u : Gr X K s r_value_text_1 r_value_text_1_o [3] := go_region _ _
@[go_sem] def r_value_text_2_o : Ops := [
oo 5 (.bin .eql (.t 3) (ci 7)), oo 4 (.asg (.t 5))]
def r_value_text_2 := rg r_value_text_2_o [3, 4]
@[go_sem] theorem r_value_text_2_u : Gr X K s r_value_text_2 r_value_text_2_o [3, 4] := go_region _ _
@[go_sem] def r_value_text_3_o : Ops := [
oo 6 (.bin .eql (.t 3) (ci 8)), oo 4 (.asg (.t 6))]
def r_value_text_3 := rg r_value_text_3_o [3, 4]
@[go_sem] theorem r_value_text_3_u : Gr X K s r_value_text_3 r_value_text_3_o [3, 4] := go_region _ _
@[go_sem] def r_value_text_4_o : Ops := [
oo 8 (.bin .eql (.t 3) (ci 16)), oo 7 (.asg (.t 8))]
def r_value_text_4 := rg r_value_text_4_o [3, 7]
@[go_sem] theorem r_value_text_4_u : Gr X K s r_value_text_4 r_value_text_4_o [3, 7] := go_region _ _
@[go_sem] def r_value_text_5_o : Ops := [
oo 9 (.bin .eql (.t 3) (ci 17)), oo 7 (.asg (.t 9))]
def r_value_text_5 := rg r_value_text_5_o [7]
@[go_sem] theorem r_value_text_5_u : Gr X K s r_value_text_5 r_value_text_5_o [7] := go_region _ _
@[go_sem] def r_value_text_6_o : Ops := [
oo 2 (.asg (.c (.bool true)))]
def r_value_text_6 := rg r_value_text_6_o [2]
@[go_sem] theorem r_value_text_6_u : Gr X K s r_value_text_6 r_value_text_6_o [2] := go_region _ _
@[go_sem] def r_value_text_7_o : Ops := [
oo 2 (.asg (.c (.bool false)))]
def r_value_text_7 := rg r_value_text_7_o [2]
@[go_sem] theorem r_value_text_7_u : Gr X K s r_value_text_7 r_value_text_7_o [2] := go_region _ _
def c_value_text : ICode := (.seq r_value_text_0 (.seq (.seq r_value_text_1 (.block 0 (.seq (.block 2 (.block 1 (.seq (.seq (.seq (.seq r_value_text_2 (.cond (.t 4) .skip r_value_text_3)) (.cond (.t 4) (.exit 1) .skip)) (.seq (.seq r_value_text_4 (.cond (.t 7) .skip r_value_text_5)) (.cond (.t 7) (.exit 2) .skip))) (.exit 0)))) (.seq (.seq r_value_text_6 .ret) (.exit 0))))) (.seq r_value_text_7 .ret)))
def i_value_text : IFunc := ⟨1, [.t 2], c_value_text⟩
def a_value_text : Advice := ⟨[], [(7, [2]), (6, [2]), (5, [7]), (4, [3, 7]), (3, [3, 4]), (2, [3, 4]), (1, [3]), (0, [0])], [], [], []⟩
/-! ingot/types.Leaf -/
@[go_sem] def r_types_Leaf_0_o : Ops := [
oo 2 (.asg (.c (.bool false)))]
def r_types_Leaf_0 := rg r_types_Leaf_0_o [0]
@[go_sem] theorem r_types_Leaf_0_u : Gr X K s r_types_Leaf_0 r_types_Leaf_0_o [0] := go_region _ _
@[go_sem] def r_types_Leaf_1_o : Ops := [
oo 3 (.mv (.t 0))]
def r_types_Leaf_1 := rg r_types_Leaf_1_o [3]
@[go_sem] theorem r_types_Leaf_1_u : Gr X K s r_types_Leaf_1 r_types_Leaf_1_o [3] := go_region _ _
@[go_sem] def r_types_Leaf_2_o : Ops := [
oo 5 (.bin .eql (.t 3) (ci 10)), oo 4 (.asg (.t 5))]
def r_types_Leaf_2 := rg r_types_Leaf_2_o [3, 4]
@[go_sem] theorem r_types_Leaf_2_u : Gr X K s r_types_Leaf_2 r_types_Leaf_2_o [3, 4] := go_region _ _
@[go_sem] def r_types_Leaf_3_o : Ops := [
oo 6 (.bin .eql (.t 3) (ci 11)), oo 4 (.asg (.t 6))]
def r_types_Leaf_3 := rg r_types_Leaf_3_o [3, 4]
@[go_sem] theorem r_types_Leaf_3_u : Gr X K s r_types_Leaf_3 r_types_Leaf_3_o [3, 4] := go_region _ _
@[go_sem] def r_types_Leaf_4_o : Ops := [
oo 8 (.bin .eql (.t 3) (ci 12)), oo 7 (.asg (.t 8))]
def r_types_Leaf_4 := rg r_types_Leaf_4_o [3, 7]
@[go_sem] theorem r_types_Leaf_4_u : Gr X K s r_types_Leaf_4 r_types_Leaf_4_o [3, 7] := go_region _ _
@[go_sem] def r_types_Leaf_5_o : Ops := [
oo 9 (.bin .eql (.t 3) (ci 13)), oo 7 (.asg (.t 9))]
def r_types_Leaf_5 := rg r_types_Leaf_5_o [7]
@[go_sem] theorem r_types_Leaf_5_u : Gr X K s r_types_Leaf_5 r_types_Leaf_5_o [7] := go_region _ _
@[go_sem] def r_types_Leaf_6_o : Ops := [
oo 2 (.asg (.c (.bool false)))]
def r_types_Leaf_6 := rg r_types_Leaf_6_o [2]
@[go_sem] theorem r_types_Leaf_6_u : Gr X K s r_types_Leaf_6 r_types_Leaf_6_o [2] := go_region _ _
@[go_sem] def r_types_Leaf_7_o : Ops := [
oo 2 (.asg (.c (.bool true)))]
def r_types_Leaf_7 := rg r_types_Leaf_7_o [2]
@[go_sem] theorem r_types_Leaf_7_u : Gr X K s r_types_Leaf_7 r_types_Leaf_7_o [2] := go_region _ _
def c_types_Leaf : ICode := (.seq r_types_Leaf_0 (.seq (.seq r_types_Leaf_1 (.block 0 (.seq (.block 2 (.block 1 (.seq (.seq (.seq (.seq r_types_Leaf_2 (.cond (.t 4) .skip r_types_Leaf_3)) (.cond (.t 4) (.exit 1) .skip)) (.seq (.seq r_types_Leaf_4 (.cond (.t 7) .skip r_types_Leaf_5)) (.cond (.t 7) (.exit 2) .skip))) (.exit 0)))) (.seq (.seq r_types_Leaf_6 .ret) (.exit 0))))) (.seq r_types_Leaf_7 .ret)))
def i_types_Leaf : IFunc := ⟨1, [.t 2], c_types_Leaf⟩
def a_types_Leaf : Advice := ⟨[], [(7, [2]), (6, [2]), (5, [7]), (4, [3, 7]), (3, [3, 4]), (2, [3, 4]), (1, [3]), (0, [0])], [], [], []⟩
/-! ingot/value.Compare -/
@[go_sem] def r_value_Compare_0_o : Ops := [
oo 3 (.box 6 (.t 0)), oo 4 (.box 5 (.t 1)), oo 5 (.box 5 (.t 2)), oo 6 (.asg (ci 0)), oo 7 (.asg (.c (.bool false)))]
def r_value_Compare_0 := rg r_value_Compare_0_o [3, 4, 5]
@[go_sem] theorem r_value_Compare_0_u : Gr X K s r_value_Compare_0 r_value_Compare_0_o [3, 4, 5] := go_region _ _
@[go_sem] def r_value_Compare_1_o : Ops := [
oo 9 (.fieldA 0 (.t 3)), oo 10 (.load none (.t 9)), oo 11 (.call false n_types_Leaf [(.t 10)]), oo 12 (.un .not (.t 11)), oo 13 (.mv (.t 12)), og 14 13 false (.fieldA 0 (.t 4)), og 15 13 false (.load none (.t 14)), oo 16 (.pick (.t 13) (.c (.bool true)) (.t 15)), oo 17 (.mv (.t 16)), og 18 17 false (.fieldA 0 (.t 5)), og 19 17 false (.load none (.t 18)), oo 20 (.pick (.t 17) (.c (.bool true)) (.t 19)), oo 8 (.asg (.t 20))]
def r_value_Compare_1 := rg r_value_Compare_1_o [3, 4, 5, 8]
@[go_sem] theorem r_value_Compare_1_u : Gr X K s r_value_Compare_1 r_value_Compare_1_o [3, 4, 5, 8] := go_region _ _
@[go_sem] def r_value_Compare_2_o : Ops := [
oo 6 (.asg (ci 0)), oo 7 (.asg (.c (.bool false)))]
def r_value_Compare_2 := rg r_value_Compare_2_o [6, 7]
@[go_sem] theorem r_value_Compare_2_u : Gr X K s r_value_Compare_2 r_value_Compare_2_o [6, 7] := go_region _ _
@[go_sem] def r_value_Compare_3_o : Ops := [
oo 22 (.fieldA 0 (.t 3)), oo 23 (.load none (.t 22)), oo 24 (.call false n_value_text [(.t 23)]), oo 21 (.asg (.t 24))]
def r_value_Compare_3 := rg r_value_Compare_3_o [4, 5, 21]
@[go_sem] theorem r_value_Compare_3_u : Gr X K s r_value_Compare_3 r_value_Compare_3_o [4, 5, 21] := go_region _ _
@[go_sem] def r_value_Compare_4_o : Ops := [
oo 25 (.fieldA 3 (.t 4)), oo 26 (.load none (.t 25)), oo 27 (.fieldA 3 (.t 5)), oo 28 (.load none (.t 27)), oo 29 (.call false n_bytes_Compare [(.t 26), (.t 28)]), oo 6 (.asg (.t 29)), oo 7 (.asg (.c (.bool true)))]
def r_value_Compare_4 := rg r_value_Compare_4_o [6, 7]
@[go_sem] theorem r_value_Compare_4_u : Gr X K s r_value_Compare_4 r_value_Compare_4_o [6, 7] := go_region _ _
@[go_sem] def r_value_Compare_5_o : Ops := [
oo 30 (.fieldA 1 (.t 4)), oo 31 (.load none (.t 30)), oo 32 (.fieldA 1 (.t 5)), oo 33 (.load none (.t 32)), oo 34 (.call false n_cmp_Compare_int64 [(.t 31), (.t 33)]), oo 35 (.fieldA 2 (.t 4)), oo 36 (.load none (.t 35)), oo 37 (.fieldA 2 (.t 5)), oo 38 (.load none (.t 37)), oo 39 (.call false n_cmp_Compare_int [(.t 36), (.t 38)]), oo 40 (.lit false 1 2 (.int .i64 0) [(0, (.t 34)), (1, (.t 39))]), oo 41 (.call false n_cmp_Or_int [(.t 40)]), oo 6 (.asg (.t 41)), oo 7 (.asg (.c (.bool true)))]
def r_value_Compare_5_n : List (Nat × Nat) := [(0, 2), (1, 2), (0, 3), (1, 3), (0, 5), (1, 5), (2, 5), (3, 5), (4, 5), (0, 6), (1, 6), (2, 6), (3, 6), (4, 6), (0, 7), (1, 7), (2, 7), (3, 7), (4, 7), (5, 7), (6, 7), (0, 8), (1, 8), (2, 8), (3, 8), (4, 8), (5, 8), (6, 8)]
def r_value_Compare_5 : ICode := .region r_value_Compare_5_o r_value_Compare_5_n [6, 7]
@[go_sem] theorem r_value_Compare_5_u : go X (.c r_value_Compare_5 :: K) s = goRU X [] r_value_Compare_5_n r_value_Compare_5_o [6, 7] K s := go_regionU' _ _ _ _
def c_value_Compare : ICode := (.seq r_value_Compare_0 (.seq (.block 0 (.seq r_value_Compare_1 (.cond (.t 8) (.seq r_value_Compare_2 .ret) (.seq r_value_Compare_3 (.cond (.t 21) (.seq r_value_Compare_4 .ret) .skip))))) (.seq r_value_Compare_5 .ret)))
def i_value_Compare : IFunc := ⟨3, [.t 6, .t 7], c_value_Compare⟩
def a_value_Compare : Advice := ⟨[], [(5, [6, 7]), (2, [6, 7]), (4, [6, 7]), (3, [4, 5, 21]), (1, [3, 4, 5, 8]), (0, [3, 4, 5])], [], [], []⟩
/-! ingot/ingotlaw14.known -/
@[go_sem] def r_ingotlaw14_known_0_o : Ops := [
oo 0 (.asg (.c (.bool false)))]
def r_ingotlaw14_known_0 := rg r_ingotlaw14_known_0_o []
@[go_sem] theorem r_ingotlaw14_known_0_u : Gr X K s r_ingotlaw14_known_0 r_ingotlaw14_known_0_o [] := go_region _ _
@[go_sem] def r_ingotlaw14_known_1_o : Ops := [
oo 7 (.lit false 1 2 (.str []) [(0, (.c (.str [97]))), (1, (.c (.str [98])))]), oo 8 (.build [(.int .i64 0), (.sl []), (.sl []), (.int .i64 0), (.int .i64 0), (.int .i64 0)] [(0, 1, (ci 1))]), oo 9 (.build [(.int .i64 0), (.sl []), (.sl []), (.int .i64 0), (.int .i64 0), (.int .i64 0)] [(0, 1, (ci 16)), (3, 1, (ci 2))]), oo 10 (.lit false 6 2 (.agg [(.int .i64 0), (.sl []), (.sl []), (.int .i64 0), (.int .i64 0), (.int .i64 0)]) [(0, (.t 8)), (1, (.t 9))]), oo 11 (.build [(.int .i64 0), (.sl []), (.sl []), (.int .i64 0), (.int .i64 0), (.int .i64 0)] [(0, 1, (ci 12)), (1, 1, (.t 7)), (2, 1, (.t 10))]), oo 1 (.alloc [(.int .i64 0), .nilS, .nilS, (.int .i64 0), (.int .i64 0), (.int .i64 0)]), ow (.store 6 (.t 1) (.t 11))]
def r_ingotlaw14_known_1 := rg r_ingotlaw14_known_1_o [1]
@[go_sem] theorem r_ingotlaw14_known_1_u : Gr X K s r_ingotlaw14_known_1 r_ingotlaw14_known_1_o [1] := go_region _ _
@[go_sem] def r_ingotlaw14_known_2_o : Ops := [
oo 12 (.build [(.bool false), (.int .i64 0), (.int .i64 0), (.sl []), (.sl [])] [(1, 1, (ci 5))]), oo 13 (.lit true 1 2 (.int .u8 0) [(0, (.c (.int .u8 97))), (1, (.c (.int .u8 98)))]), oo 14 (.cvB false (.t 13)), oo 15 (.build [(.bool false), (.int .i64 0), (.int .i64 0), (.sl []), (.sl [])] [(3, 1, (.t 14))]), oo 16 (.lit false 5 2 (.agg [(.bool false), (.int .i64 0), (.int .i64 0), (.sl []), (.sl [])]) [(0, (.t 12)), (1, (.t 15))]), oo 17 (.build [(.bool false), (.int .i64 0), (.int .i64 0), (.sl []), (.sl [])] [(4, 1, (.t 16))]), oo 2 (.alloc [(.bool false), (.int .i64 0), (.int .i64 0), .nilS, .nilS]), ow (.store 5 (.t 2) (.t 17))]
def r_ingotlaw14_known_2 := rg r_ingotlaw14_known_2_o [1, 2]
@[go_sem] theorem r_ingotlaw14_known_2_u : Gr X K s r_ingotlaw14_known_2 r_ingotlaw14_known_2_o [1, 2] := go_region _ _
@[go_sem] def r_ingotlaw14_known_3_o : Ops := [
oo 18 (.build [(.bool false), (.int .i64 0), (.int .i64 0), (.sl []), (.sl [])] [(1, 1, (ci 300))]), oo 19 (.lit true 1 2 (.int .u8 0) [(0, (.c (.int .u8 97))), (1, (.c (.int .u8 98)))]), oo 20 (.cvB false (.t 19)), oo 21 (.build [(.bool false), (.int .i64 0), (.int .i64 0), (.sl []), (.sl [])] [(3, 1, (.t 20))]), oo 22 (.lit false 5 2 (.agg [(.bool false), (.int .i64 0), (.int .i64 0), (.sl []), (.sl [])]) [(0, (.t 18)), (1, (.t 21))]), oo 23 (.build [(.bool false), (.int .i64 0), (.int .i64 0), (.sl []), (.sl [])] [(4, 1, (.t 22))]), oo 3 (.alloc [(.bool false), (.int .i64 0), (.int .i64 0), .nilS, .nilS]), ow (.store 5 (.t 3) (.t 23))]
def r_ingotlaw14_known_3 := rg r_ingotlaw14_known_3_o [1, 2, 3]
@[go_sem] theorem r_ingotlaw14_known_3_u : Gr X K s r_ingotlaw14_known_3 r_ingotlaw14_known_3_o [1, 2, 3] := go_region _ _
@[go_sem] def r_ingotlaw14_known_4_o : Ops := [
oo 25 (.fieldA 2 (.t 1)), oo 26 (.load none (.t 25)), oo 27 (.idxA 6 (.t 26) (ci 0)), oo 28 (.load (some 6) (.t 27)), oo 29 (.fieldA 4 (.t 2)), oo 30 (.load none (.t 29)), oo 31 (.idxA 5 (.t 30) (ci 0)), oo 32 (.load (some 5) (.t 31)), oo 33 (.build [(.bool false), (.int .i64 0), (.int .i64 0), (.sl []), (.sl [])] [(1, 1, (ci 7))]), oo 34 (.call false n_value_Compare [(.t 28), (.t 32), (.t 33)]), oo 24 (.mv (.t 34)), oo 35 (.ext (.t 24) 0), oo 36 (.ext (.t 24) 1), oo 4 (.asg (.t 35)), oo 5 (.asg (.t 36))]
def r_ingotlaw14_known_4_n : List (Nat × Nat) := [(0, 4), (1, 4), (2, 4), (3, 4), (0, 5), (1, 5), (2, 5), (3, 5), (0, 6), (1, 6), (2, 6), (3, 6), (0, 7), (1, 7), (2, 7), (3, 7), (0, 8), (1, 8), (2, 8), (3, 8), (4, 8), (5, 8), (6, 8), (7, 8), (11, 12), (12, 13)]
def r_ingotlaw14_known_4 : ICode := .region r_ingotlaw14_known_4_o r_ingotlaw14_known_4_n [1, 2, 3, 4, 5]
@[go_sem] theorem r_ingotlaw14_known_4_u : go X (.c r_ingotlaw14_known_4 :: K) s = goRU X [] r_ingotlaw14_known_4_n r_ingotlaw14_known_4_o [1, 2, 3, 4, 5] K s := go_regionU' _ _ _ _
@[go_sem] def r_ingotlaw14_known_5_o : Ops := [
oo 37 (.load (some 6) (.t 1)), oo 38 (.call false n_types_Flatten [(.t 37)]), oo 39 (.lit false 1 3 (.bool false) [(0, (.c (.bool true))), (1, (.c (.bool false))), (2, (.c (.bool true)))]), oo 40 (.load (some 5) (.t 2)), oo 41 (.call false n_value_Project [(.t 38), (.t 39), (.t 40)]), oo 6 (.alloc [(.bool false), (.int .i64 0), (.int .i64 0), .nilS, .nilS]), ow (.store 5 (.t 6) (.t 41))]
def r_ingotlaw14_known_5_n : List (Nat × Nat) := [(0, 2), (1, 2), (0, 3), (1, 3), (2, 3), (0, 5), (1, 5), (2, 5), (3, 5), (4, 5)]
def r_ingotlaw14_known_5 : ICode := .region r_ingotlaw14_known_5_o r_ingotlaw14_known_5_n [1, 2, 3, 4, 5, 6]
@[go_sem] theorem r_ingotlaw14_known_5_u : go X (.c r_ingotlaw14_known_5 :: K) s = goRU X [] r_ingotlaw14_known_5_n r_ingotlaw14_known_5_o [1, 2, 3, 4, 5, 6] K s := go_regionU' _ _ _ _
@[go_sem] def r_ingotlaw14_known_6_o : Ops := [
oo 42 (.load (some 6) (.t 1)), oo 43 (.load (some 5) (.t 2)), oo 44 (.call false n_value_Check [(.t 42), (.t 43)]), oo 45 (.bin .eql (.t 44) (ci 0)), oo 46 (.mv (.t 45)), og 47 46 true (.load (some 6) (.t 1)), og 48 46 true (.load (some 5) (.t 3)), og 49 46 true (.call false n_value_Check [(.t 47), (.t 48)]), og 50 46 true (.bin .eql (.t 49) (ci 1)), oo 51 (.pick (.t 46) (.t 50) (.c (.bool false))), oo 52 (.mv (.t 51)), og 53 52 true (.load (some 6) (.t 1)), og 54 52 true (.load (some 5) (.t 2)), og 55 52 true (.call false n_value_Text [(.t 53), (.t 54)]), og 56 52 true (.bin .eql (.t 55) (.c (.str [40, 53, 44, 34, 97, 98, 34, 41]))), oo 57 (.pick (.t 52) (.t 56) (.c (.bool false))), oo 58 (.mv (.t 57)), og 59 58 true (.mv (.t 4)), og 60 58 true (.bin .eql (.t 59) (ci (-1))), oo 61 (.pick (.t 58) (.t 60) (.c (.bool false))), oo 62 (.mv (.t 61)), og 63 62 true (.mv (.t 5)), oo 64 (.pick (.t 62) (.t 63) (.c (.bool false))), oo 65 (.mv (.t 64)), og 66 65 true (.load (some 6) (.t 1)), og 67 65 true (.load (some 5) (.t 2)), og 68 65 true (.call false n_value_Size [(.t 66), (.t 67)]), og 69 65 true (.bin .eql (.t 68) (ci 13)), oo 70 (.pick (.t 65) (.t 69) (.c (.bool false))), oo 71 (.mv (.t 70)), og 72 71 true (.load (some 6) (.t 1)), og 73 71 true (.load (some 5) (.t 2)), og 74 71 true (.load (some 5) (.t 2)), og 75 71 true (.call false n_value_Clone [(.t 74)]), og 76 71 true (.call false n_value_Same [(.t 72), (.t 73), (.t 75)]), oo 77 (.pick (.t 71) (.t 76) (.c (.bool false))), oo 78 (.mv (.t 77)), og 79 78 true (.fieldA 4 (.t 6)), og 80 78 true (.load none (.t 79)), og 81 78 true (.len false (.t 80)), og 82 78 true (.bin .eql (.t 81) (ci 1)), oo 83 (.pick (.t 78) (.t 82) (.c (.bool false))), oo 84 (.mv (.t 83)), og 85 84 true (.load (some 6) (.t 1)), og 86 84 true (.call false n_value_Zero [(.t 85)]), og 87 84 true (.field 4 none (.t 86)), og 88 84 true (.len false (.t 87)), og 89 84 true (.bin .eql (.t 88) (ci 2)), oo 90 (.pick (.t 84) (.t 89) (.c (.bool false))), oo 91 (.mv (.t 90)), og 92 91 true (.lit true 1 3 (.int .u8 0) [(0, (.c (.int .u8 97))), (1, (.c (.int .u8 195))), (2, (.c (.int .u8 164)))]), og 93 91 true (.cvB false (.t 92)), og 94 91 true (.call false n_value_Signs [(.t 93)]), og 95 91 true (.bin .eql (.t 94) (ci 2)), oo 96 (.pick (.t 91) (.t 95) (.c (.bool false))), oo 0 (.asg (.t 96))]
def r_ingotlaw14_known_6_n : List (Nat × Nat) := [(0, 1), (5, 6), (11, 12), (24, 25), (30, 31), (30, 32), (31, 32), (30, 33), (31, 33)]
def r_ingotlaw14_known_6 : ICode := .region r_ingotlaw14_known_6_o r_ingotlaw14_known_6_n [0]
@[go_sem] theorem r_ingotlaw14_known_6_u : go X (.c r_ingotlaw14_known_6 :: K) s = goRU X [] r_ingotlaw14_known_6_n r_ingotlaw14_known_6_o [0] K s := go_regionU' _ _ _ _
def c_ingotlaw14_known : ICode := (.seq r_ingotlaw14_known_0 (.seq r_ingotlaw14_known_1 (.seq r_ingotlaw14_known_2 (.seq r_ingotlaw14_known_3 (.seq r_ingotlaw14_known_4 (.seq r_ingotlaw14_known_5 (.seq r_ingotlaw14_known_6 .ret)))))))
def i_ingotlaw14_known : IFunc := ⟨0, [.t 0], c_ingotlaw14_known⟩
def a_ingotlaw14_known : Advice := ⟨[13, 19, 92], [(6, [0]), (5, [1, 2, 3, 4, 5, 6]), (4, [1, 2, 3, 4, 5]), (3, [1, 2, 3]), (2, [1, 2]), (1, [1]), (0, [])], [], [], []⟩
/-! ingot/ingotlaw14.ValueTwo -/
@[go_sem] def r_ingotlaw14_ValueTwo_0_o : Ops := [
oo 3 (.box 6 (.t 0)), oo 4 (.box 5 (.t 1)), oo 5 (.box 5 (.t 2)), oo 6 (.asg (.c (.bool false)))]
def r_ingotlaw14_ValueTwo_0 := rg r_ingotlaw14_ValueTwo_0_o [3, 4, 5]
@[go_sem] theorem r_ingotlaw14_ValueTwo_0_u : Gr X K s r_ingotlaw14_ValueTwo_0 r_ingotlaw14_ValueTwo_0_o [3, 4, 5] := go_region _ _
@[go_sem] def r_ingotlaw14_ValueTwo_1_o : Ops := [
oo 14 (.call false n_ingotlaw14_known []), oo 15 (.un .not (.t 14))]
def r_ingotlaw14_ValueTwo_1 := rg r_ingotlaw14_ValueTwo_1_o [3, 4, 5, 15]
@[go_sem] theorem r_ingotlaw14_ValueTwo_1_u : Gr X K s r_ingotlaw14_ValueTwo_1 r_ingotlaw14_ValueTwo_1_o [3, 4, 5, 15] := go_region _ _
@[go_sem] def r_ingotlaw14_ValueTwo_2_o : Ops := [
oo 6 (.asg (.c (.bool false)))]
def r_ingotlaw14_ValueTwo_2 := rg r_ingotlaw14_ValueTwo_2_o [6]
@[go_sem] theorem r_ingotlaw14_ValueTwo_2_u : Gr X K s r_ingotlaw14_ValueTwo_2 r_ingotlaw14_ValueTwo_2_o [6] := go_region _ _
@[go_sem] def r_ingotlaw14_ValueTwo_3_o : Ops := [
oo 16 (.load (some 6) (.t 3)), oo 17 (.call false n_ingotlaw14_Right [(.t 16)]), oo 18 (.un .not (.t 17)), oo 19 (.mv (.t 18)), og 20 19 false (.load (some 5) (.t 4)), og 21 19 false (.call false n_ingotlaw14_Few [(.t 20)]), og 22 19 false (.un .not (.t 21)), oo 23 (.pick (.t 19) (.c (.bool true)) (.t 22)), oo 24 (.mv (.t 23)), og 25 24 false (.load (some 5) (.t 5)), og 26 24 false (.call false n_ingotlaw14_Few [(.t 25)]), og 27 24 false (.un .not (.t 26)), oo 28 (.pick (.t 24) (.c (.bool true)) (.t 27)), oo 29 (.mv (.t 28)), og 30 29 false (.load (some 6) (.t 3)), og 31 29 false (.load (some 5) (.t 4)), og 32 29 false (.call false n_ingotref14_Check [(.t 30), (.t 31)]), og 33 29 false (.bin .neq (.t 32) (ci 0)), oo 34 (.pick (.t 29) (.c (.bool true)) (.t 33)), oo 35 (.mv (.t 34)), og 36 35 false (.load (some 6) (.t 3)), og 37 35 false (.load (some 5) (.t 5)), og 38 35 false (.call false n_ingotref14_Check [(.t 36), (.t 37)]), og 39 35 false (.bin .neq (.t 38) (ci 0)), oo 40 (.pick (.t 35) (.c (.bool true)) (.t 39))]
def r_ingotlaw14_ValueTwo_3 := rg r_ingotlaw14_ValueTwo_3_o [3, 4, 5, 40]
@[go_sem] theorem r_ingotlaw14_ValueTwo_3_u : Gr X K s r_ingotlaw14_ValueTwo_3 r_ingotlaw14_ValueTwo_3_o [3, 4, 5, 40] := go_region _ _
@[go_sem] def r_ingotlaw14_ValueTwo_4_o : Ops := [
oo 6 (.asg (.c (.bool true)))]
def r_ingotlaw14_ValueTwo_4 := rg r_ingotlaw14_ValueTwo_4_o [6]
@[go_sem] theorem r_ingotlaw14_ValueTwo_4_u : Gr X K s r_ingotlaw14_ValueTwo_4 r_ingotlaw14_ValueTwo_4_o [6] := go_region _ _
@[go_sem] def r_ingotlaw14_ValueTwo_5_o : Ops := [
oo 42 (.load (some 6) (.t 3)), oo 43 (.load (some 5) (.t 4)), oo 44 (.load (some 5) (.t 5)), oo 45 (.call false n_value_Compare [(.t 42), (.t 43), (.t 44)]), oo 41 (.mv (.t 45)), oo 46 (.ext (.t 41) 0), oo 47 (.ext (.t 41) 1), oo 7 (.asg (.t 46)), oo 8 (.asg (.t 47))]
def r_ingotlaw14_ValueTwo_5 := rg r_ingotlaw14_ValueTwo_5_o [3, 4, 5, 7, 8]
@[go_sem] theorem r_ingotlaw14_ValueTwo_5_u : Gr X K s r_ingotlaw14_ValueTwo_5 r_ingotlaw14_ValueTwo_5_o [3, 4, 5, 7, 8] := go_region _ _
@[go_sem] def r_ingotlaw14_ValueTwo_6_o : Ops := [
oo 49 (.load (some 6) (.t 3)), oo 50 (.load (some 5) (.t 4)), oo 51 (.load (some 5) (.t 5)), oo 52 (.call false n_ingotref14_Compare [(.t 49), (.t 50), (.t 51)]), oo 48 (.mv (.t 52)), oo 53 (.ext (.t 48) 0), oo 54 (.ext (.t 48) 1), oo 9 (.asg (.t 53)), oo 10 (.asg (.t 54))]
def r_ingotlaw14_ValueTwo_6 := rg r_ingotlaw14_ValueTwo_6_o [3, 4, 5, 7, 8, 9, 10]
@[go_sem] theorem r_ingotlaw14_ValueTwo_6_u : Gr X K s r_ingotlaw14_ValueTwo_6 r_ingotlaw14_ValueTwo_6_o [3, 4, 5, 7, 8, 9, 10] := go_region _ _
@[go_sem] def r_ingotlaw14_ValueTwo_7_o : Ops := [
oo 56 (.load (some 6) (.t 3)), oo 57 (.load (some 5) (.t 5)), oo 58 (.load (some 5) (.t 4)), oo 59 (.call false n_value_Compare [(.t 56), (.t 57), (.t 58)]), oo 55 (.mv (.t 59)), oo 60 (.ext (.t 55) 0), oo 61 (.ext (.t 55) 1), oo 11 (.asg (.t 60)), oo 12 (.asg (.t 61))]
def r_ingotlaw14_ValueTwo_7 := rg r_ingotlaw14_ValueTwo_7_o [3, 4, 5, 7, 8, 9, 10, 11, 12]
@[go_sem] theorem r_ingotlaw14_ValueTwo_7_u : Gr X K s r_ingotlaw14_ValueTwo_7 r_ingotlaw14_ValueTwo_7_o [3, 4, 5, 7, 8, 9, 10, 11, 12] := go_region _ _
@[go_sem] def r_ingotlaw14_ValueTwo_8_o : Ops := [
oo 62 (.load (some 6) (.t 3)), oo 63 (.load (some 5) (.t 4)), oo 64 (.load (some 5) (.t 5)), oo 65 (.call false n_value_Same [(.t 62), (.t 63), (.t 64)]), oo 13 (.asg (.t 65))]
def r_ingotlaw14_ValueTwo_8 := rg r_ingotlaw14_ValueTwo_8_o [3, 4, 5, 7, 8, 9, 10, 11, 12, 13]
@[go_sem] theorem r_ingotlaw14_ValueTwo_8_u : Gr X K s r_ingotlaw14_ValueTwo_8 r_ingotlaw14_ValueTwo_8_o [3, 4, 5, 7, 8, 9, 10, 11, 12, 13] := go_region _ _
@[go_sem] def r_ingotlaw14_ValueTwo_9_o : Ops := [
oo 66 (.mv (.t 7)), oo 67 (.mv (.t 9)), oo 68 (.bin .neq (.t 66) (.t 67)), oo 69 (.mv (.t 68)), og 70 69 false (.mv (.t 8)), og 71 69 false (.mv (.t 10)), og 72 69 false (.eqn true .bool (.t 70) (.t 71)), oo 73 (.pick (.t 69) (.c (.bool true)) (.t 72)), oo 74 (.mv (.t 73)), og 75 74 false (.mv (.t 11)), og 76 74 false (.mv (.t 7)), og 77 74 false (.bin .sub (ci 0) (.t 76)), og 78 74 false (.bin .neq (.t 75) (.t 77)), oo 79 (.pick (.t 74) (.c (.bool true)) (.t 78)), oo 80 (.mv (.t 79)), og 81 80 false (.mv (.t 12)), og 82 80 false (.mv (.t 8)), og 83 80 false (.eqn true .bool (.t 81) (.t 82)), oo 84 (.pick (.t 80) (.c (.bool true)) (.t 83)), oo 85 (.mv (.t 84)), og 86 85 false (.mv (.t 13)), og 87 85 false (.load (some 5) (.t 4)), og 88 85 false (.load (some 5) (.t 5)), og 89 85 false (.call false n_ingotref14_Same [(.t 87), (.t 88)]), og 90 85 false (.eqn true .bool (.t 86) (.t 89)), oo 91 (.pick (.t 85) (.c (.bool true)) (.t 90)), oo 92 (.mv (.t 91)), og 93 92 false (.mv (.t 13)), og 94 92 false (.load (some 6) (.t 3)), og 95 92 false (.load (some 5) (.t 5)), og 96 92 false (.load (some 5) (.t 4)), og 97 92 false (.call false n_value_Same [(.t 94), (.t 95), (.t 96)]), og 98 92 false (.eqn true .bool (.t 93) (.t 97)), oo 99 (.pick (.t 92) (.c (.bool true)) (.t 98))]
def r_ingotlaw14_ValueTwo_9 := rg r_ingotlaw14_ValueTwo_9_o [7, 8, 13, 99]
@[go_sem] theorem r_ingotlaw14_ValueTwo_9_u : Gr X K s r_ingotlaw14_ValueTwo_9 r_ingotlaw14_ValueTwo_9_o [7, 8, 13, 99] := go_region _ _
@[go_sem] def r_ingotlaw14_ValueTwo_10_o : Ops := [
oo 6 (.asg (.c (.bool false)))]
def r_ingotlaw14_ValueTwo_10 := rg r_ingotlaw14_ValueTwo_10_o [6]
@[go_sem] theorem r_ingotlaw14_ValueTwo_10_u : Gr X K s r_ingotlaw14_ValueTwo_10 r_ingotlaw14_ValueTwo_10_o [6] := go_region _ _
@[go_sem] def r_ingotlaw14_ValueTwo_11_o : Ops := [
oo 100 (.mv (.t 8)), oo 101 (.un .not (.t 100)), oo 102 (.mv (.t 101)), og 103 102 false (.mv (.t 7)), og 104 102 false (.bin .eql (.t 103) (ci 0)), og 105 102 false (.mv (.t 13)), og 106 102 false (.eqn false .bool (.t 104) (.t 105)), oo 107 (.pick (.t 102) (.c (.bool true)) (.t 106)), oo 6 (.asg (.t 107))]
def r_ingotlaw14_ValueTwo_11 := rg r_ingotlaw14_ValueTwo_11_o [6]
@[go_sem] theorem r_ingotlaw14_ValueTwo_11_u : Gr X K s r_ingotlaw14_ValueTwo_11 r_ingotlaw14_ValueTwo_11_o [6] := go_region _ _
def c_ingotlaw14_ValueTwo : ICode := (.seq r_ingotlaw14_ValueTwo_0 (.seq r_ingotlaw14_ValueTwo_1 (.cond (.t 15) (.seq r_ingotlaw14_ValueTwo_2 .ret) (.seq r_ingotlaw14_ValueTwo_3 (.cond (.t 40) (.seq r_ingotlaw14_ValueTwo_4 .ret) (.seq r_ingotlaw14_ValueTwo_5 (.seq r_ingotlaw14_ValueTwo_6 (.seq r_ingotlaw14_ValueTwo_7 (.seq r_ingotlaw14_ValueTwo_8 (.seq r_ingotlaw14_ValueTwo_9 (.cond (.t 99) (.seq r_ingotlaw14_ValueTwo_10 .ret) (.seq r_ingotlaw14_ValueTwo_11 .ret))))))))))))
def i_ingotlaw14_ValueTwo : IFunc := ⟨3, [.t 6], c_ingotlaw14_ValueTwo⟩
def a_ingotlaw14_ValueTwo : Advice := ⟨[], [(11, [6]), (10, [6]), (9, [7, 8, 13, 99]), (8, [3, 4, 5, 7, 8, 9, 10, 11, 12, 13]), (7, [3, 4, 5, 7, 8, 9, 10, 11, 12]), (6, [3, 4, 5, 7, 8, 9, 10]), (5, [3, 4, 5, 7, 8]), (4, [6]), (3, [3, 4, 5, 40]), (2, [6]), (1, [3, 4, 5, 15]), (0, [3, 4, 5])], [], [], []⟩
/-! the table -/
def tbl : List (FuncId × IFunc) := [(n_ingotlaw14_ValueOrders, i_ingotlaw14_ValueOrders), (n_ingotlaw14_ValueNulls, i_ingotlaw14_ValueNulls), (n_ingotlaw14_ValueLengths, i_ingotlaw14_ValueLengths), (n_ingotlaw14_ValueRanges, i_ingotlaw14_ValueRanges), (n_ingotlaw14_ValueCopies, i_ingotlaw14_ValueCopies), (n_ingotref14_Project, i_ingotref14_Project), (n_ingotref13_all, i_ingotref13_all), (n_ingotref13_Close, i_ingotref13_Close), (n_ingotref13_Flatten, i_ingotref13_Flatten), (n_ingotlaw14_ValueProjects, i_ingotlaw14_ValueProjects), (n_ingotref14_Same, i_ingotref14_Same), (n_ingotref14_Compare, i_ingotref14_Compare), (n_ingotref14_Kid, i_ingotref14_Kid), (n_ingotref14_Signs, i_ingotref14_Signs), (n_ingotref13_Leaf, i_ingotref13_Leaf), (n_ingotref14_Texts, i_ingotref14_Texts), (n_ingotref12_Check, i_ingotref12_Check), (n_ingotref11_digits, i_ingotref11_digits), (n_ingotref11_size, i_ingotref11_size), (n_ingotref11_Digits, i_ingotref11_Digits), (n_ingotref14_Numbers, i_ingotref14_Numbers), (n_ingotref14_Check, i_ingotref14_Check), (n_ingotlaw14_few, i_ingotlaw14_few), (n_ingotlaw14_Weight, i_ingotlaw14_Weight), (n_ingotlaw14_Few, i_ingotlaw14_Few), (n_ingotref13_own, i_ingotref13_own), (n_ingotref13_check, i_ingotref13_check), (n_ingotref13_Check, i_ingotref13_Check), (n_ingotlaw13_few, i_ingotlaw13_few), (n_ingotlaw13_Few, i_ingotlaw13_Few), (n_ingotlaw14_Right, i_ingotlaw14_Right), (n_value_Zero, i_value_Zero), (n_slices_EqualFunc_Sapi_Value_Sapi_Value_api_Value_api_Value, i_slices_EqualFunc_Sapi_Value_Sapi_Value_api_Value_api_Value), (n_value_Same_1, i_value_Same_1), (n_bytes_Equal, i_bytes_Equal), (n_value_Same, i_value_Same), (n_value_Size, i_value_Size), (n_value_leaf, i_value_leaf), (n_value_Text, i_value_Text), (n_value_kid, i_value_kid), (n_value_count, i_value_count), (n_value_Signs, i_value_Signs), (n_value_long, i_value_long), (n_stamp_Check, i_stamp_Check), (n_deci_size, i_deci_size), (n_deci_Digits, i_deci_Digits), (n_value_wide, i_value_wide), (n_value_number, i_value_number), (n_value_named, i_value_named), (n_value_Check, i_value_Check), (n_value_project, i_value_project), (n_slices_Clone_Sbyte_byte, i_slices_Clone_Sbyte_byte), (n_value_Clone, i_value_Clone), (n_value_Project, i_value_Project), (n_slices_Clone_Sstring_string, i_slices_Clone_Sstring_string), (n_types_flatten, i_types_flatten), (n_types_right, i_types_right), (n_types_walk, i_types_walk), (n_types_Check, i_types_Check), (n_types_Flatten, i_types_Flatten), (n_cmp_Or_int, i_cmp_Or_int), (n_cmp_isNaN_int, i_cmp_isNaN_int), (n_cmp_Compare_int, i_cmp_Compare_int), (n_cmp_isNaN_int64, i_cmp_isNaN_int64), (n_cmp_Compare_int64, i_cmp_Compare_int64), (n_bytes_Compare, i_bytes_Compare), (n_value_text, i_value_text), (n_types_Leaf, i_types_Leaf), (n_value_Compare, i_value_Compare), (n_ingotlaw14_known, i_ingotlaw14_known), (n_ingotlaw14_ValueTwo, i_ingotlaw14_ValueTwo)]
def clips : List FuncId := [n_slices_Clip_Sapi_Value_api_Value, n_slices_Clip_Sbyte_byte, n_slices_Clip_Stypes_Node_types_Node, n_slices_Clip_Sint_int, n_slices_Clip_Sstring_string]
set_option maxRecDepth 100000 in
theorem k_ingotlaw14_ValueOrders : cFunc Tryz.prog a_ingotlaw14_ValueOrders Tryz.f9 = some i_ingotlaw14_ValueOrders := by kernel_rfl
set_option maxRecDepth 100000 in
theorem k_ingotlaw14_ValueNulls : cFunc Tryz.prog a_ingotlaw14_ValueNulls Tryz.f8 = some i_ingotlaw14_ValueNulls := by kernel_rfl
set_option maxRecDepth 100000 in
theorem k_ingotlaw14_ValueLengths : cFunc Tryz.prog a_ingotlaw14_ValueLengths Tryz.f7 = some i_ingotlaw14_ValueLengths := by kernel_rfl
set_option maxRecDepth 100000 in
theorem k_ingotlaw14_ValueRanges : cFunc Tryz.prog a_ingotlaw14_ValueRanges Tryz.f6 = some i_ingotlaw14_ValueRanges := by kernel_rfl
set_option maxRecDepth 100000 in
theorem k_ingotlaw14_ValueCopies : cFunc Tryz.prog a_ingotlaw14_ValueCopies Tryz.f5 = some i_ingotlaw14_ValueCopies := by kernel_rfl
set_option maxRecDepth 100000 in
theorem k_ingotref14_Project : cFunc Tryz.prog a_ingotref14_Project Tryz.f22 = some i_ingotref14_Project := by kernel_rfl
set_option maxRecDepth 100000 in
theorem k_ingotref13_all : cFunc Tryz.prog a_ingotref13_all Tryz.f48 = some i_ingotref13_all := by kernel_rfl
set_option maxRecDepth 100000 in
theorem k_ingotref13_Close : cFunc Tryz.prog a_ingotref13_Close Tryz.f19 = some i_ingotref13_Close := by kernel_rfl
set_option maxRecDepth 100000 in
theorem k_ingotref13_Flatten : cFunc Tryz.prog a_ingotref13_Flatten Tryz.f18 = some i_ingotref13_Flatten := by kernel_rfl
set_option maxRecDepth 100000 in
theorem k_ingotlaw14_ValueProjects : cFunc Tryz.prog a_ingotlaw14_ValueProjects Tryz.f4 = some i_ingotlaw14_ValueProjects := by kernel_rfl
set_option maxRecDepth 100000 in
theorem k_ingotref14_Same : cFunc Tryz.prog a_ingotref14_Same Tryz.f17 = some i_ingotref14_Same := by kernel_rfl
set_option maxRecDepth 100000 in
theorem k_ingotref14_Compare : cFunc Tryz.prog a_ingotref14_Compare Tryz.f15 = some i_ingotref14_Compare := by kernel_rfl
set_option maxRecDepth 100000 in
theorem k_ingotref14_Kid : cFunc Tryz.prog a_ingotref14_Kid Tryz.f37 = some i_ingotref14_Kid := by kernel_rfl
set_option maxRecDepth 100000 in
theorem k_ingotref14_Signs : cFunc Tryz.prog a_ingotref14_Signs Tryz.f36 = some i_ingotref14_Signs := by kernel_rfl
set_option maxRecDepth 100000 in
theorem k_ingotref13_Leaf : cFunc Tryz.prog a_ingotref13_Leaf Tryz.f35 = some i_ingotref13_Leaf := by kernel_rfl
set_option maxRecDepth 100000 in
theorem k_ingotref14_Texts : cFunc Tryz.prog a_ingotref14_Texts Tryz.f34 = some i_ingotref14_Texts := by kernel_rfl
set_option maxRecDepth 100000 in
theorem k_ingotref12_Check : cFunc Tryz.prog a_ingotref12_Check Tryz.f68 = some i_ingotref12_Check := by kernel_rfl
set_option maxRecDepth 100000 in
theorem k_ingotref11_digits : cFunc Tryz.prog a_ingotref11_digits Tryz.f89 = some i_ingotref11_digits := by kernel_rfl
set_option maxRecDepth 100000 in
theorem k_ingotref11_size : cFunc Tryz.prog a_ingotref11_size Tryz.f90 = some i_ingotref11_size := by kernel_rfl
set_option maxRecDepth 100000 in
theorem k_ingotref11_Digits : cFunc Tryz.prog a_ingotref11_Digits Tryz.f67 = some i_ingotref11_Digits := by kernel_rfl
set_option maxRecDepth 100000 in
theorem k_ingotref14_Numbers : cFunc Tryz.prog a_ingotref14_Numbers Tryz.f33 = some i_ingotref14_Numbers := by kernel_rfl
set_option maxRecDepth 100000 in
theorem k_ingotref14_Check : cFunc Tryz.prog a_ingotref14_Check Tryz.f13 = some i_ingotref14_Check := by kernel_rfl
set_option maxRecDepth 100000 in
theorem k_ingotlaw14_few : cFunc Tryz.prog a_ingotlaw14_few Tryz.f66 = some i_ingotlaw14_few := by kernel_rfl
set_option maxRecDepth 100000 in
theorem k_ingotlaw14_Weight : cFunc Tryz.prog a_ingotlaw14_Weight Tryz.f32 = some i_ingotlaw14_Weight := by kernel_rfl
set_option maxRecDepth 100000 in
theorem k_ingotlaw14_Few : cFunc Tryz.prog a_ingotlaw14_Few Tryz.f12 = some i_ingotlaw14_Few := by kernel_rfl
set_option maxRecDepth 100000 in
theorem k_ingotref13_own : cFunc Tryz.prog a_ingotref13_own Tryz.f88 = some i_ingotref13_own := by kernel_rfl
set_option maxRecDepth 100000 in
theorem k_ingotref13_check : cFunc Tryz.prog a_ingotref13_check Tryz.f65 = some i_ingotref13_check := by kernel_rfl
set_option maxRecDepth 100000 in
theorem k_ingotref13_Check : cFunc Tryz.prog a_ingotref13_Check Tryz.f31 = some i_ingotref13_Check := by kernel_rfl
set_option maxRecDepth 100000 in
theorem k_ingotlaw13_few : cFunc Tryz.prog a_ingotlaw13_few Tryz.f64 = some i_ingotlaw13_few := by kernel_rfl
set_option maxRecDepth 100000 in
theorem k_ingotlaw13_Few : cFunc Tryz.prog a_ingotlaw13_Few Tryz.f30 = some i_ingotlaw13_Few := by kernel_rfl
set_option maxRecDepth 100000 in
theorem k_ingotlaw14_Right : cFunc Tryz.prog a_ingotlaw14_Right Tryz.f11 = some i_ingotlaw14_Right := by kernel_rfl
set_option maxRecDepth 100000 in
theorem k_value_Zero : cFunc Tryz.prog a_value_Zero Tryz.f29 = some i_value_Zero := by kernel_rfl
set_option maxRecDepth 100000 in
theorem k_slices_EqualFunc_Sapi_Value_Sapi_Value_api_Value_api_Value : cFunc Tryz.prog a_slices_EqualFunc_Sapi_Value_Sapi_Value_api_Value_api_Value Tryz.f45 = some i_slices_EqualFunc_Sapi_Value_Sapi_Value_api_Value_api_Value := by kernel_rfl
set_option maxRecDepth 100000 in
theorem k_value_Same_1 : cFunc Tryz.prog a_value_Same_1 Tryz.f46 = some i_value_Same_1 := by kernel_rfl
set_option maxRecDepth 100000 in
theorem k_bytes_Equal : cFunc Tryz.prog a_bytes_Equal Tryz.f44 = some i_bytes_Equal := by kernel_rfl
set_option maxRecDepth 100000 in
theorem k_value_Same : cFunc Tryz.prog a_value_Same Tryz.f16 = some i_value_Same := by kernel_rfl
set_option maxRecDepth 100000 in
theorem k_value_Size : cFunc Tryz.prog a_value_Size Tryz.f27 = some i_value_Size := by kernel_rfl
set_option maxRecDepth 100000 in
theorem k_value_leaf : cFunc Tryz.prog a_value_leaf Tryz.f61 = some i_value_leaf := by kernel_rfl
set_option maxRecDepth 100000 in
theorem k_value_Text : cFunc Tryz.prog a_value_Text Tryz.f28 = some i_value_Text := by kernel_rfl
set_option maxRecDepth 100000 in
theorem k_value_kid : cFunc Tryz.prog a_value_kid Tryz.f60 = some i_value_kid := by kernel_rfl
set_option maxRecDepth 100000 in
theorem k_value_count : cFunc Tryz.prog a_value_count Tryz.f59 = some i_value_count := by kernel_rfl
set_option maxRecDepth 100000 in
theorem k_value_Signs : cFunc Tryz.prog a_value_Signs Tryz.f26 = some i_value_Signs := by kernel_rfl
set_option maxRecDepth 100000 in
theorem k_value_long : cFunc Tryz.prog a_value_long Tryz.f58 = some i_value_long := by kernel_rfl
set_option maxRecDepth 100000 in
theorem k_stamp_Check : cFunc Tryz.prog a_stamp_Check Tryz.f78 = some i_stamp_Check := by kernel_rfl
set_option maxRecDepth 100000 in
theorem k_deci_size : cFunc Tryz.prog a_deci_size Tryz.f92 = some i_deci_size := by kernel_rfl
set_option maxRecDepth 100000 in
theorem k_deci_Digits : cFunc Tryz.prog a_deci_Digits Tryz.f77 = some i_deci_Digits := by kernel_rfl
set_option maxRecDepth 100000 in
theorem k_value_wide : cFunc Tryz.prog a_value_wide Tryz.f76 = some i_value_wide := by kernel_rfl
set_option maxRecDepth 100000 in
theorem k_value_number : cFunc Tryz.prog a_value_number Tryz.f57 = some i_value_number := by kernel_rfl
set_option maxRecDepth 100000 in
theorem k_value_named : cFunc Tryz.prog a_value_named Tryz.f56 = some i_value_named := by kernel_rfl
set_option maxRecDepth 100000 in
theorem k_value_Check : cFunc Tryz.prog a_value_Check Tryz.f25 = some i_value_Check := by kernel_rfl
set_option maxRecDepth 100000 in
theorem k_value_project : cFunc Tryz.prog a_value_project Tryz.f49 = some i_value_project := by kernel_rfl
set_option maxRecDepth 100000 in
theorem k_slices_Clone_Sbyte_byte : cFunc Tryz.prog a_slices_Clone_Sbyte_byte Tryz.f54 = some i_slices_Clone_Sbyte_byte := by kernel_rfl
set_option maxRecDepth 100000 in
theorem k_value_Clone : cFunc Tryz.prog a_value_Clone Tryz.f23 = some i_value_Clone := by kernel_rfl
set_option maxRecDepth 100000 in
theorem k_value_Project : cFunc Tryz.prog a_value_Project Tryz.f20 = some i_value_Project := by kernel_rfl
set_option maxRecDepth 100000 in
theorem k_slices_Clone_Sstring_string : cFunc Tryz.prog a_slices_Clone_Sstring_string Tryz.f74 = some i_slices_Clone_Sstring_string := by kernel_rfl
set_option maxRecDepth 100000 in
theorem k_types_flatten : cFunc Tryz.prog a_types_flatten Tryz.f52 = some i_types_flatten := by kernel_rfl
set_option maxRecDepth 100000 in
theorem k_types_right : cFunc Tryz.prog a_types_right Tryz.f91 = some i_types_right := by kernel_rfl
set_option maxRecDepth 100000 in
theorem k_types_walk : cFunc Tryz.prog a_types_walk Tryz.f72 = some i_types_walk := by kernel_rfl
set_option maxRecDepth 100000 in
theorem k_types_Check : cFunc Tryz.prog a_types_Check Tryz.f50 = some i_types_Check := by kernel_rfl
set_option maxRecDepth 100000 in
theorem k_types_Flatten : cFunc Tryz.prog a_types_Flatten Tryz.f21 = some i_types_Flatten := by kernel_rfl
set_option maxRecDepth 100000 in
theorem k_cmp_Or_int : cFunc Tryz.prog a_cmp_Or_int Tryz.f41 = some i_cmp_Or_int := by kernel_rfl
set_option maxRecDepth 100000 in
theorem k_cmp_isNaN_int : cFunc Tryz.prog a_cmp_isNaN_int Tryz.f71 = some i_cmp_isNaN_int := by kernel_rfl
set_option maxRecDepth 100000 in
theorem k_cmp_Compare_int : cFunc Tryz.prog a_cmp_Compare_int Tryz.f43 = some i_cmp_Compare_int := by kernel_rfl
set_option maxRecDepth 100000 in
theorem k_cmp_isNaN_int64 : cFunc Tryz.prog a_cmp_isNaN_int64 Tryz.f70 = some i_cmp_isNaN_int64 := by kernel_rfl
set_option maxRecDepth 100000 in
theorem k_cmp_Compare_int64 : cFunc Tryz.prog a_cmp_Compare_int64 Tryz.f42 = some i_cmp_Compare_int64 := by kernel_rfl
set_option maxRecDepth 100000 in
theorem k_bytes_Compare : cFunc Tryz.prog a_bytes_Compare Tryz.f40 = some i_bytes_Compare := by kernel_rfl
set_option maxRecDepth 100000 in
theorem k_value_text : cFunc Tryz.prog a_value_text Tryz.f39 = some i_value_text := by kernel_rfl
set_option maxRecDepth 100000 in
theorem k_types_Leaf : cFunc Tryz.prog a_types_Leaf Tryz.f38 = some i_types_Leaf := by kernel_rfl
set_option maxRecDepth 100000 in
theorem k_value_Compare : cFunc Tryz.prog a_value_Compare Tryz.f14 = some i_value_Compare := by kernel_rfl
set_option maxRecDepth 100000 in
theorem k_ingotlaw14_known : cFunc Tryz.prog a_ingotlaw14_known Tryz.f10 = some i_ingotlaw14_known := by kernel_rfl
set_option maxRecDepth 100000 in
theorem k_ingotlaw14_ValueTwo : cFunc Tryz.prog a_ingotlaw14_ValueTwo Tryz.f3 = some i_ingotlaw14_ValueTwo := by kernel_rfl
theorem tbl_ok : Entries Tryz.prog tbl :=
  .cons (.of Tryz.func9 (by kernel_rfl) k_ingotlaw14_ValueOrders) <|
  .cons (.of Tryz.func8 (by kernel_rfl) k_ingotlaw14_ValueNulls) <|
  .cons (.of Tryz.func7 (by kernel_rfl) k_ingotlaw14_ValueLengths) <|
  .cons (.of Tryz.func6 (by kernel_rfl) k_ingotlaw14_ValueRanges) <|
  .cons (.of Tryz.func5 (by kernel_rfl) k_ingotlaw14_ValueCopies) <|
  .cons (.of Tryz.func22 (by kernel_rfl) k_ingotref14_Project) <|
  .cons (.of Tryz.func48 (by kernel_rfl) k_ingotref13_all) <|
  .cons (.of Tryz.func19 (by kernel_rfl) k_ingotref13_Close) <|
  .cons (.of Tryz.func18 (by kernel_rfl) k_ingotref13_Flatten) <|
  .cons (.of Tryz.func4 (by kernel_rfl) k_ingotlaw14_ValueProjects) <|
  .cons (.of Tryz.func17 (by kernel_rfl) k_ingotref14_Same) <|
  .cons (.of Tryz.func15 (by kernel_rfl) k_ingotref14_Compare) <|
  .cons (.of Tryz.func37 (by kernel_rfl) k_ingotref14_Kid) <|
  .cons (.of Tryz.func36 (by kernel_rfl) k_ingotref14_Signs) <|
  .cons (.of Tryz.func35 (by kernel_rfl) k_ingotref13_Leaf) <|
  .cons (.of Tryz.func34 (by kernel_rfl) k_ingotref14_Texts) <|
  .cons (.of Tryz.func68 (by kernel_rfl) k_ingotref12_Check) <|
  .cons (.of Tryz.func89 (by kernel_rfl) k_ingotref11_digits) <|
  .cons (.of Tryz.func90 (by kernel_rfl) k_ingotref11_size) <|
  .cons (.of Tryz.func67 (by kernel_rfl) k_ingotref11_Digits) <|
  .cons (.of Tryz.func33 (by kernel_rfl) k_ingotref14_Numbers) <|
  .cons (.of Tryz.func13 (by kernel_rfl) k_ingotref14_Check) <|
  .cons (.of Tryz.func66 (by kernel_rfl) k_ingotlaw14_few) <|
  .cons (.of Tryz.func32 (by kernel_rfl) k_ingotlaw14_Weight) <|
  .cons (.of Tryz.func12 (by kernel_rfl) k_ingotlaw14_Few) <|
  .cons (.of Tryz.func88 (by kernel_rfl) k_ingotref13_own) <|
  .cons (.of Tryz.func65 (by kernel_rfl) k_ingotref13_check) <|
  .cons (.of Tryz.func31 (by kernel_rfl) k_ingotref13_Check) <|
  .cons (.of Tryz.func64 (by kernel_rfl) k_ingotlaw13_few) <|
  .cons (.of Tryz.func30 (by kernel_rfl) k_ingotlaw13_Few) <|
  .cons (.of Tryz.func11 (by kernel_rfl) k_ingotlaw14_Right) <|
  .cons (.of Tryz.func29 (by kernel_rfl) k_value_Zero) <|
  .cons (.of Tryz.func45 (by kernel_rfl) k_slices_EqualFunc_Sapi_Value_Sapi_Value_api_Value_api_Value) <|
  .cons (.of Tryz.func46 (by kernel_rfl) k_value_Same_1) <|
  .cons (.of Tryz.func44 (by kernel_rfl) k_bytes_Equal) <|
  .cons (.of Tryz.func16 (by kernel_rfl) k_value_Same) <|
  .cons (.of Tryz.func27 (by kernel_rfl) k_value_Size) <|
  .cons (.of Tryz.func61 (by kernel_rfl) k_value_leaf) <|
  .cons (.of Tryz.func28 (by kernel_rfl) k_value_Text) <|
  .cons (.of Tryz.func60 (by kernel_rfl) k_value_kid) <|
  .cons (.of Tryz.func59 (by kernel_rfl) k_value_count) <|
  .cons (.of Tryz.func26 (by kernel_rfl) k_value_Signs) <|
  .cons (.of Tryz.func58 (by kernel_rfl) k_value_long) <|
  .cons (.of Tryz.func78 (by kernel_rfl) k_stamp_Check) <|
  .cons (.of Tryz.func92 (by kernel_rfl) k_deci_size) <|
  .cons (.of Tryz.func77 (by kernel_rfl) k_deci_Digits) <|
  .cons (.of Tryz.func76 (by kernel_rfl) k_value_wide) <|
  .cons (.of Tryz.func57 (by kernel_rfl) k_value_number) <|
  .cons (.of Tryz.func56 (by kernel_rfl) k_value_named) <|
  .cons (.of Tryz.func25 (by kernel_rfl) k_value_Check) <|
  .cons (.of Tryz.func49 (by kernel_rfl) k_value_project) <|
  .cons (.of Tryz.func54 (by kernel_rfl) k_slices_Clone_Sbyte_byte) <|
  .cons (.of Tryz.func23 (by kernel_rfl) k_value_Clone) <|
  .cons (.of Tryz.func20 (by kernel_rfl) k_value_Project) <|
  .cons (.of Tryz.func74 (by kernel_rfl) k_slices_Clone_Sstring_string) <|
  .cons (.of Tryz.func52 (by kernel_rfl) k_types_flatten) <|
  .cons (.of Tryz.func91 (by kernel_rfl) k_types_right) <|
  .cons (.of Tryz.func72 (by kernel_rfl) k_types_walk) <|
  .cons (.of Tryz.func50 (by kernel_rfl) k_types_Check) <|
  .cons (.of Tryz.func21 (by kernel_rfl) k_types_Flatten) <|
  .cons (.of Tryz.func41 (by kernel_rfl) k_cmp_Or_int) <|
  .cons (.of Tryz.func71 (by kernel_rfl) k_cmp_isNaN_int) <|
  .cons (.of Tryz.func43 (by kernel_rfl) k_cmp_Compare_int) <|
  .cons (.of Tryz.func70 (by kernel_rfl) k_cmp_isNaN_int64) <|
  .cons (.of Tryz.func42 (by kernel_rfl) k_cmp_Compare_int64) <|
  .cons (.of Tryz.func40 (by kernel_rfl) k_bytes_Compare) <|
  .cons (.of Tryz.func39 (by kernel_rfl) k_value_text) <|
  .cons (.of Tryz.func38 (by kernel_rfl) k_types_Leaf) <|
  .cons (.of Tryz.func14 (by kernel_rfl) k_value_Compare) <|
  .cons (.of Tryz.func10 (by kernel_rfl) k_ingotlaw14_known) <|
  .cons (.of Tryz.func3 (by kernel_rfl) k_ingotlaw14_ValueTwo) <|
  .nil

/-! what is known besides -/
def exts : FuncId → Option (List D → Option V) := fun f => if f = n_strconv_FormatInt then some xFmtI else if f = n_strings_Join then some xJoin else if f = n_types_names then some xNames else if f = n_bytealg_Compare then some xCompare else none
def pow10 : Array Value := (Lib.pow10Tab.map fun z => Value.int .u64 z).toArray
def gobjs : Nat → Option (Array Value) := fun n => if n = 1 then some pow10 else none
def cfg : Cfg := { funcs := lk tbl, meth := fun _ _ => none, glob := fun _ => none, gobj := gobjs, intTy := fun _ => false, clip := fun f => clips.contains f, ext := exts }
-- CODE2
abbrev X_ingotlaw14_ValueOrders : Kx := ⟨cfg, 0, [.t 8]⟩
theorem e_ingotlaw14_ValueOrders : Oe cfg n_ingotlaw14_ValueOrders 4 [.t 8] c_ingotlaw14_ValueOrders := fun _ _ _ => evL_go (fn := i_ingotlaw14_ValueOrders) rfl rfl _ _ _
theorem o_ingotlaw14_ValueOrders (x0 x1 x2 x3 : D) : Of X_ingotlaw14_ValueOrders n_ingotlaw14_ValueOrders [.d x0, .d x1, .d x2, .d x3] c_ingotlaw14_ValueOrders := e_ingotlaw14_ValueOrders 0 _ _ rfl rfl
@[go_sem] theorem u_ingotlaw14_ValueOrders : Uc cfg n_ingotlaw14_ValueOrders := uc rfl
abbrev X_ingotlaw14_ValueNulls : Kx := ⟨cfg, 0, [.t 4]⟩
theorem e_ingotlaw14_ValueNulls : Oe cfg n_ingotlaw14_ValueNulls 2 [.t 4] c_ingotlaw14_ValueNulls := fun _ _ _ => evL_go (fn := i_ingotlaw14_ValueNulls) rfl rfl _ _ _
theorem o_ingotlaw14_ValueNulls (x0 x1 : D) : Of X_ingotlaw14_ValueNulls n_ingotlaw14_ValueNulls [.d x0, .d x1] c_ingotlaw14_ValueNulls := e_ingotlaw14_ValueNulls 0 _ _ rfl rfl
@[go_sem] theorem u_ingotlaw14_ValueNulls : Uc cfg n_ingotlaw14_ValueNulls := uc rfl
abbrev X_ingotlaw14_ValueLengths : Kx := ⟨cfg, 0, [.t 4]⟩
theorem e_ingotlaw14_ValueLengths : Oe cfg n_ingotlaw14_ValueLengths 2 [.t 4] c_ingotlaw14_ValueLengths := fun _ _ _ => evL_go (fn := i_ingotlaw14_ValueLengths) rfl rfl _ _ _
theorem o_ingotlaw14_ValueLengths (x0 x1 : D) : Of X_ingotlaw14_ValueLengths n_ingotlaw14_ValueLengths [.d x0, .d x1] c_ingotlaw14_ValueLengths := e_ingotlaw14_ValueLengths 0 _ _ rfl rfl
@[go_sem] theorem u_ingotlaw14_ValueLengths : Uc cfg n_ingotlaw14_ValueLengths := uc rfl
abbrev X_ingotlaw14_ValueRanges : Kx := ⟨cfg, 0, [.t 4]⟩
theorem e_ingotlaw14_ValueRanges : Oe cfg n_ingotlaw14_ValueRanges 2 [.t 4] c_ingotlaw14_ValueRanges := fun _ _ _ => evL_go (fn := i_ingotlaw14_ValueRanges) rfl rfl _ _ _
theorem o_ingotlaw14_ValueRanges (x0 x1 : D) : Of X_ingotlaw14_ValueRanges n_ingotlaw14_ValueRanges [.d x0, .d x1] c_ingotlaw14_ValueRanges := e_ingotlaw14_ValueRanges 0 _ _ rfl rfl
@[go_sem] theorem u_ingotlaw14_ValueRanges : Uc cfg n_ingotlaw14_ValueRanges := uc rfl
abbrev X_ingotlaw14_ValueCopies : Kx := ⟨cfg, 0, [.t 4]⟩
theorem e_ingotlaw14_ValueCopies : Oe cfg n_ingotlaw14_ValueCopies 2 [.t 4] c_ingotlaw14_ValueCopies := fun _ _ _ => evL_go (fn := i_ingotlaw14_ValueCopies) rfl rfl _ _ _
theorem o_ingotlaw14_ValueCopies (x0 x1 : D) : Of X_ingotlaw14_ValueCopies n_ingotlaw14_ValueCopies [.d x0, .d x1] c_ingotlaw14_ValueCopies := e_ingotlaw14_ValueCopies 0 _ _ rfl rfl
@[go_sem] theorem u_ingotlaw14_ValueCopies : Uc cfg n_ingotlaw14_ValueCopies := uc rfl
abbrev X_ingotref14_Project : Kx := ⟨cfg, 0, [.cell 8 (some 5)]⟩
theorem e_ingotref14_Project : Oe cfg n_ingotref14_Project 4 [.cell 8 (some 5)] c_ingotref14_Project := fun _ _ _ => evL_go (fn := i_ingotref14_Project) rfl rfl _ _ _
theorem o_ingotref14_Project (x0 x1 x2 x3 : D) : Of X_ingotref14_Project n_ingotref14_Project [.d x0, .d x1, .d x2, .d x3] c_ingotref14_Project := e_ingotref14_Project 0 _ _ rfl rfl
@[go_sem] theorem u_ingotref14_Project : Uc cfg n_ingotref14_Project := uc rfl
abbrev X_ingotref13_all : Kx := ⟨cfg, 0, []⟩
theorem e_ingotref13_all : Oe cfg n_ingotref13_all 3 [] c_ingotref13_all := fun _ _ _ => evL_go (fn := i_ingotref13_all) rfl rfl _ _ _
theorem o_ingotref13_all (x0 x1 x2 : D) : Of X_ingotref13_all n_ingotref13_all [.d x0, .d x1, .d x2] c_ingotref13_all := e_ingotref13_all 0 _ _ rfl rfl
@[go_sem] theorem u_ingotref13_all : Uc cfg n_ingotref13_all := uc rfl
abbrev X_ingotref13_Close : Kx := ⟨cfg, 0, [.t 4, .t 5]⟩
theorem e_ingotref13_Close : Oe cfg n_ingotref13_Close 2 [.t 4, .t 5] c_ingotref13_Close := fun _ _ _ => evL_go (fn := i_ingotref13_Close) rfl rfl _ _ _
theorem o_ingotref13_Close (x0 x1 : D) : Of X_ingotref13_Close n_ingotref13_Close [.d x0, .d x1] c_ingotref13_Close := e_ingotref13_Close 0 _ _ rfl rfl
@[go_sem] theorem u_ingotref13_Close : Uc cfg n_ingotref13_Close := uc rfl
abbrev X_ingotref13_Flatten : Kx := ⟨cfg, 0, [.t 2]⟩
theorem e_ingotref13_Flatten : Oe cfg n_ingotref13_Flatten 1 [.t 2] c_ingotref13_Flatten := fun _ _ _ => evL_go (fn := i_ingotref13_Flatten) rfl rfl _ _ _
theorem o_ingotref13_Flatten (x0 : D) : Of X_ingotref13_Flatten n_ingotref13_Flatten [.d x0] c_ingotref13_Flatten := e_ingotref13_Flatten 0 _ _ rfl rfl
@[go_sem] theorem u_ingotref13_Flatten : Uc cfg n_ingotref13_Flatten := uc rfl
abbrev X_ingotlaw14_ValueProjects : Kx := ⟨cfg, 0, [.t 6]⟩
theorem e_ingotlaw14_ValueProjects : Oe cfg n_ingotlaw14_ValueProjects 3 [.t 6] c_ingotlaw14_ValueProjects := fun _ _ _ => evL_go (fn := i_ingotlaw14_ValueProjects) rfl rfl _ _ _
theorem o_ingotlaw14_ValueProjects (x0 x1 x2 : D) : Of X_ingotlaw14_ValueProjects n_ingotlaw14_ValueProjects [.d x0, .d x1, .d x2] c_ingotlaw14_ValueProjects := e_ingotlaw14_ValueProjects 0 _ _ rfl rfl
@[go_sem] theorem u_ingotlaw14_ValueProjects : Uc cfg n_ingotlaw14_ValueProjects := uc rfl
abbrev X_ingotref14_Same : Kx := ⟨cfg, 0, [.t 4]⟩
theorem e_ingotref14_Same : Oe cfg n_ingotref14_Same 2 [.t 4] c_ingotref14_Same := fun _ _ _ => evL_go (fn := i_ingotref14_Same) rfl rfl _ _ _
theorem o_ingotref14_Same (x0 x1 : D) : Of X_ingotref14_Same n_ingotref14_Same [.d x0, .d x1] c_ingotref14_Same := e_ingotref14_Same 0 _ _ rfl rfl
@[go_sem] theorem u_ingotref14_Same : Uc cfg n_ingotref14_Same := uc rfl
abbrev X_ingotref14_Compare : Kx := ⟨cfg, 0, [.t 6, .t 7]⟩
theorem e_ingotref14_Compare : Oe cfg n_ingotref14_Compare 3 [.t 6, .t 7] c_ingotref14_Compare := fun _ _ _ => evL_go (fn := i_ingotref14_Compare) rfl rfl _ _ _
theorem o_ingotref14_Compare (x0 x1 x2 : D) : Of X_ingotref14_Compare n_ingotref14_Compare [.d x0, .d x1, .d x2] c_ingotref14_Compare := e_ingotref14_Compare 0 _ _ rfl rfl
@[go_sem] theorem u_ingotref14_Compare : Uc cfg n_ingotref14_Compare := uc rfl
abbrev X_ingotref14_Kid : Kx := ⟨cfg, 0, [.cell 6 (some 6)]⟩
theorem e_ingotref14_Kid : Oe cfg n_ingotref14_Kid 3 [.cell 6 (some 6)] c_ingotref14_Kid := fun _ _ _ => evL_go (fn := i_ingotref14_Kid) rfl rfl _ _ _
theorem o_ingotref14_Kid (x0 x1 x2 : D) : Of X_ingotref14_Kid n_ingotref14_Kid [.d x0, .d x1, .d x2] c_ingotref14_Kid := e_ingotref14_Kid 0 _ _ rfl rfl
@[go_sem] theorem u_ingotref14_Kid : Uc cfg n_ingotref14_Kid := uc rfl
abbrev X_ingotref14_Signs : Kx := ⟨cfg, 0, [.t 2]⟩
theorem e_ingotref14_Signs : Oe cfg n_ingotref14_Signs 1 [.t 2] c_ingotref14_Signs := fun _ _ _ => evL_go (fn := i_ingotref14_Signs) rfl rfl _ _ _
theorem o_ingotref14_Signs (x0 : D) : Of X_ingotref14_Signs n_ingotref14_Signs [.d x0] c_ingotref14_Signs := e_ingotref14_Signs 0 _ _ rfl rfl
@[go_sem] theorem u_ingotref14_Signs : Uc cfg n_ingotref14_Signs := uc rfl
abbrev X_ingotref13_Leaf : Kx := ⟨cfg, 0, [.t 2]⟩
theorem e_ingotref13_Leaf : Oe cfg n_ingotref13_Leaf 1 [.t 2] c_ingotref13_Leaf := fun _ _ _ => evL_go (fn := i_ingotref13_Leaf) rfl rfl _ _ _
theorem o_ingotref13_Leaf (x0 : D) : Of X_ingotref13_Leaf n_ingotref13_Leaf [.d x0] c_ingotref13_Leaf := e_ingotref13_Leaf 0 _ _ rfl rfl
@[go_sem] theorem u_ingotref13_Leaf : Uc cfg n_ingotref13_Leaf := uc rfl
abbrev X_ingotref14_Texts : Kx := ⟨cfg, 0, [.t 2]⟩
theorem e_ingotref14_Texts : Oe cfg n_ingotref14_Texts 1 [.t 2] c_ingotref14_Texts := fun _ _ _ => evL_go (fn := i_ingotref14_Texts) rfl rfl _ _ _
theorem o_ingotref14_Texts (x0 : D) : Of X_ingotref14_Texts n_ingotref14_Texts [.d x0] c_ingotref14_Texts := e_ingotref14_Texts 0 _ _ rfl rfl
@[go_sem] theorem u_ingotref14_Texts : Uc cfg n_ingotref14_Texts := uc rfl
abbrev X_ingotref12_Check : Kx := ⟨cfg, 0, [.t 4]⟩
theorem e_ingotref12_Check : Oe cfg n_ingotref12_Check 2 [.t 4] c_ingotref12_Check := fun _ _ _ => evL_go (fn := i_ingotref12_Check) rfl rfl _ _ _
theorem o_ingotref12_Check (x0 x1 : D) : Of X_ingotref12_Check n_ingotref12_Check [.d x0, .d x1] c_ingotref12_Check := e_ingotref12_Check 0 _ _ rfl rfl
@[go_sem] theorem u_ingotref12_Check : Uc cfg n_ingotref12_Check := uc rfl
abbrev X_ingotref11_digits : Kx := ⟨cfg, 0, [.t 2]⟩
theorem e_ingotref11_digits : Oe cfg n_ingotref11_digits 1 [.t 2] c_ingotref11_digits := fun _ _ _ => evL_go (fn := i_ingotref11_digits) rfl rfl _ _ _
theorem o_ingotref11_digits (x0 : D) : Of X_ingotref11_digits n_ingotref11_digits [.d x0] c_ingotref11_digits := e_ingotref11_digits 0 _ _ rfl rfl
@[go_sem] theorem u_ingotref11_digits : Uc cfg n_ingotref11_digits := uc rfl
abbrev X_ingotref11_size : Kx := ⟨cfg, 0, [.t 2]⟩
theorem e_ingotref11_size : Oe cfg n_ingotref11_size 1 [.t 2] c_ingotref11_size := fun _ _ _ => evL_go (fn := i_ingotref11_size) rfl rfl _ _ _
theorem o_ingotref11_size (x0 : D) : Of X_ingotref11_size n_ingotref11_size [.d x0] c_ingotref11_size := e_ingotref11_size 0 _ _ rfl rfl
@[go_sem] theorem u_ingotref11_size : Uc cfg n_ingotref11_size := uc rfl
abbrev X_ingotref11_Digits : Kx := ⟨cfg, 0, [.t 2]⟩
theorem e_ingotref11_Digits : Oe cfg n_ingotref11_Digits 1 [.t 2] c_ingotref11_Digits := fun _ _ _ => evL_go (fn := i_ingotref11_Digits) rfl rfl _ _ _
theorem o_ingotref11_Digits (x0 : D) : Of X_ingotref11_Digits n_ingotref11_Digits [.d x0] c_ingotref11_Digits := e_ingotref11_Digits 0 _ _ rfl rfl
@[go_sem] theorem u_ingotref11_Digits : Uc cfg n_ingotref11_Digits := uc rfl
abbrev X_ingotref14_Numbers : Kx := ⟨cfg, 0, [.t 6]⟩
theorem e_ingotref14_Numbers : Oe cfg n_ingotref14_Numbers 3 [.t 6] c_ingotref14_Numbers := fun _ _ _ => evL_go (fn := i_ingotref14_Numbers) rfl rfl _ _ _
theorem o_ingotref14_Numbers (x0 x1 x2 : D) : Of X_ingotref14_Numbers n_ingotref14_Numbers [.d x0, .d x1, .d x2] c_ingotref14_Numbers := e_ingotref14_Numbers 0 _ _ rfl rfl
@[go_sem] theorem u_ingotref14_Numbers : Uc cfg n_ingotref14_Numbers := uc rfl
abbrev X_ingotref14_Check : Kx := ⟨cfg, 0, [.t 4]⟩
theorem e_ingotref14_Check : Oe cfg n_ingotref14_Check 2 [.t 4] c_ingotref14_Check := fun _ _ _ => evL_go (fn := i_ingotref14_Check) rfl rfl _ _ _
theorem o_ingotref14_Check (x0 x1 : D) : Of X_ingotref14_Check n_ingotref14_Check [.d x0, .d x1] c_ingotref14_Check := e_ingotref14_Check 0 _ _ rfl rfl
@[go_sem] theorem u_ingotref14_Check : Uc cfg n_ingotref14_Check := uc rfl
abbrev X_ingotlaw14_few : Kx := ⟨cfg, 0, [.t 4]⟩
theorem e_ingotlaw14_few : Oe cfg n_ingotlaw14_few 2 [.t 4] c_ingotlaw14_few := fun _ _ _ => evL_go (fn := i_ingotlaw14_few) rfl rfl _ _ _
theorem o_ingotlaw14_few (x0 x1 : D) : Of X_ingotlaw14_few n_ingotlaw14_few [.d x0, .d x1] c_ingotlaw14_few := e_ingotlaw14_few 0 _ _ rfl rfl
@[go_sem] theorem u_ingotlaw14_few : Uc cfg n_ingotlaw14_few := uc rfl
abbrev X_ingotlaw14_Weight : Kx := ⟨cfg, 0, [.t 2]⟩
theorem e_ingotlaw14_Weight : Oe cfg n_ingotlaw14_Weight 1 [.t 2] c_ingotlaw14_Weight := fun _ _ _ => evL_go (fn := i_ingotlaw14_Weight) rfl rfl _ _ _
theorem o_ingotlaw14_Weight (x0 : D) : Of X_ingotlaw14_Weight n_ingotlaw14_Weight [.d x0] c_ingotlaw14_Weight := e_ingotlaw14_Weight 0 _ _ rfl rfl
@[go_sem] theorem u_ingotlaw14_Weight : Uc cfg n_ingotlaw14_Weight := uc rfl
abbrev X_ingotlaw14_Few : Kx := ⟨cfg, 0, [.t 2]⟩
theorem e_ingotlaw14_Few : Oe cfg n_ingotlaw14_Few 1 [.t 2] c_ingotlaw14_Few := fun _ _ _ => evL_go (fn := i_ingotlaw14_Few) rfl rfl _ _ _
theorem o_ingotlaw14_Few (x0 : D) : Of X_ingotlaw14_Few n_ingotlaw14_Few [.d x0] c_ingotlaw14_Few := e_ingotlaw14_Few 0 _ _ rfl rfl
@[go_sem] theorem u_ingotlaw14_Few : Uc cfg n_ingotlaw14_Few := uc rfl
abbrev X_ingotref13_own : Kx := ⟨cfg, 0, [.t 2]⟩
theorem e_ingotref13_own : Oe cfg n_ingotref13_own 1 [.t 2] c_ingotref13_own := fun _ _ _ => evL_go (fn := i_ingotref13_own) rfl rfl _ _ _
theorem o_ingotref13_own (x0 : D) : Of X_ingotref13_own n_ingotref13_own [.d x0] c_ingotref13_own := e_ingotref13_own 0 _ _ rfl rfl
@[go_sem] theorem u_ingotref13_own : Uc cfg n_ingotref13_own := uc rfl
abbrev X_ingotref13_check : Kx := ⟨cfg, 0, [.t 6, .t 7]⟩
theorem e_ingotref13_check : Oe cfg n_ingotref13_check 3 [.t 6, .t 7] c_ingotref13_check := fun _ _ _ => evL_go (fn := i_ingotref13_check) rfl rfl _ _ _
theorem o_ingotref13_check (x0 x1 x2 : D) : Of X_ingotref13_check n_ingotref13_check [.d x0, .d x1, .d x2] c_ingotref13_check := e_ingotref13_check 0 _ _ rfl rfl
@[go_sem] theorem u_ingotref13_check : Uc cfg n_ingotref13_check := uc rfl
abbrev X_ingotref13_Check : Kx := ⟨cfg, 0, [.t 2]⟩
theorem e_ingotref13_Check : Oe cfg n_ingotref13_Check 1 [.t 2] c_ingotref13_Check := fun _ _ _ => evL_go (fn := i_ingotref13_Check) rfl rfl _ _ _
theorem o_ingotref13_Check (x0 : D) : Of X_ingotref13_Check n_ingotref13_Check [.d x0] c_ingotref13_Check := e_ingotref13_Check 0 _ _ rfl rfl
@[go_sem] theorem u_ingotref13_Check : Uc cfg n_ingotref13_Check := uc rfl
abbrev X_ingotlaw13_few : Kx := ⟨cfg, 0, [.t 4]⟩
theorem e_ingotlaw13_few : Oe cfg n_ingotlaw13_few 2 [.t 4] c_ingotlaw13_few := fun _ _ _ => evL_go (fn := i_ingotlaw13_few) rfl rfl _ _ _
theorem o_ingotlaw13_few (x0 x1 : D) : Of X_ingotlaw13_few n_ingotlaw13_few [.d x0, .d x1] c_ingotlaw13_few := e_ingotlaw13_few 0 _ _ rfl rfl
@[go_sem] theorem u_ingotlaw13_few : Uc cfg n_ingotlaw13_few := uc rfl
abbrev X_ingotlaw13_Few : Kx := ⟨cfg, 0, [.t 2]⟩
theorem e_ingotlaw13_Few : Oe cfg n_ingotlaw13_Few 1 [.t 2] c_ingotlaw13_Few := fun _ _ _ => evL_go (fn := i_ingotlaw13_Few) rfl rfl _ _ _
theorem o_ingotlaw13_Few (x0 : D) : Of X_ingotlaw13_Few n_ingotlaw13_Few [.d x0] c_ingotlaw13_Few := e_ingotlaw13_Few 0 _ _ rfl rfl
@[go_sem] theorem u_ingotlaw13_Few : Uc cfg n_ingotlaw13_Few := uc rfl
abbrev X_ingotlaw14_Right : Kx := ⟨cfg, 0, [.t 2]⟩
theorem e_ingotlaw14_Right : Oe cfg n_ingotlaw14_Right 1 [.t 2] c_ingotlaw14_Right := fun _ _ _ => evL_go (fn := i_ingotlaw14_Right) rfl rfl _ _ _
theorem o_ingotlaw14_Right (x0 : D) : Of X_ingotlaw14_Right n_ingotlaw14_Right [.d x0] c_ingotlaw14_Right := e_ingotlaw14_Right 0 _ _ rfl rfl
@[go_sem] theorem u_ingotlaw14_Right : Uc cfg n_ingotlaw14_Right := uc rfl
abbrev X_value_Zero : Kx := ⟨cfg, 0, [.cell 2 (some 5)]⟩
theorem e_value_Zero : Oe cfg n_value_Zero 1 [.cell 2 (some 5)] c_value_Zero := fun _ _ _ => evL_go (fn := i_value_Zero) rfl rfl _ _ _
theorem o_value_Zero (x0 : D) : Of X_value_Zero n_value_Zero [.d x0] c_value_Zero := e_value_Zero 0 _ _ rfl rfl
@[go_sem] theorem u_value_Zero : Uc cfg n_value_Zero := uc rfl
abbrev X_slices_EqualFunc_Sapi_Value_Sapi_Value_api_Value_api_Value : Kx := ⟨cfg, 0, [.t 6]⟩
theorem e_slices_EqualFunc_Sapi_Value_Sapi_Value_api_Value_api_Value : Oe cfg n_slices_EqualFunc_Sapi_Value_Sapi_Value_api_Value_api_Value 3 [.t 6] c_slices_EqualFunc_Sapi_Value_Sapi_Value_api_Value_api_Value := fun _ _ _ => evL_go (fn := i_slices_EqualFunc_Sapi_Value_Sapi_Value_api_Value_api_Value) rfl rfl _ _ _
theorem o_slices_EqualFunc_Sapi_Value_Sapi_Value_api_Value_api_Value (x0 x1 x2 : D) : Of X_slices_EqualFunc_Sapi_Value_Sapi_Value_api_Value_api_Value n_slices_EqualFunc_Sapi_Value_Sapi_Value_api_Value_api_Value [.d x0, .d x1, .d x2] c_slices_EqualFunc_Sapi_Value_Sapi_Value_api_Value_api_Value := e_slices_EqualFunc_Sapi_Value_Sapi_Value_api_Value_api_Value 0 _ _ rfl rfl
@[go_sem] theorem u_slices_EqualFunc_Sapi_Value_Sapi_Value_api_Value_api_Value : Uc cfg n_slices_EqualFunc_Sapi_Value_Sapi_Value_api_Value_api_Value := uc rfl
abbrev X_value_Same_1 : Kx := ⟨cfg, 0, [.t 5]⟩
theorem e_value_Same_1 : Oe cfg n_value_Same_1 3 [.t 5] c_value_Same_1 := fun _ _ _ => evL_go (fn := i_value_Same_1) rfl rfl _ _ _
theorem o_value_Same_1 (x0 x1 x2 : D) : Of X_value_Same_1 n_value_Same_1 [.d x0, .d x1, .d x2] c_value_Same_1 := e_value_Same_1 0 _ _ rfl rfl
@[go_sem] theorem u_value_Same_1 : Uc cfg n_value_Same_1 := uc rfl
abbrev X_bytes_Equal : Kx := ⟨cfg, 0, [.t 4]⟩
theorem e_bytes_Equal : Oe cfg n_bytes_Equal 2 [.t 4] c_bytes_Equal := fun _ _ _ => evL_go (fn := i_bytes_Equal) rfl rfl _ _ _
theorem o_bytes_Equal (x0 x1 : D) : Of X_bytes_Equal n_bytes_Equal [.d x0, .d x1] c_bytes_Equal := e_bytes_Equal 0 _ _ rfl rfl
@[go_sem] theorem u_bytes_Equal : Uc cfg n_bytes_Equal := uc rfl
abbrev X_value_Same : Kx := ⟨cfg, 0, [.t 6]⟩
theorem e_value_Same : Oe cfg n_value_Same 3 [.t 6] c_value_Same := fun _ _ _ => evL_go (fn := i_value_Same) rfl rfl _ _ _
theorem o_value_Same (x0 x1 x2 : D) : Of X_value_Same n_value_Same [.d x0, .d x1, .d x2] c_value_Same := e_value_Same 0 _ _ rfl rfl
@[go_sem] theorem u_value_Same : Uc cfg n_value_Same := uc rfl
abbrev X_value_Size : Kx := ⟨cfg, 0, [.t 4]⟩
theorem e_value_Size : Oe cfg n_value_Size 2 [.t 4] c_value_Size := fun _ _ _ => evL_go (fn := i_value_Size) rfl rfl _ _ _
theorem o_value_Size (x0 x1 : D) : Of X_value_Size n_value_Size [.d x0, .d x1] c_value_Size := e_value_Size 0 _ _ rfl rfl
@[go_sem] theorem u_value_Size : Uc cfg n_value_Size := uc rfl
abbrev X_value_leaf : Kx := ⟨cfg, 0, [.t 4]⟩
theorem e_value_leaf : Oe cfg n_value_leaf 2 [.t 4] c_value_leaf := fun _ _ _ => evL_go (fn := i_value_leaf) rfl rfl _ _ _
theorem o_value_leaf (x0 x1 : D) : Of X_value_leaf n_value_leaf [.d x0, .d x1] c_value_leaf := e_value_leaf 0 _ _ rfl rfl
@[go_sem] theorem u_value_leaf : Uc cfg n_value_leaf := uc rfl
abbrev X_value_Text : Kx := ⟨cfg, 0, [.t 4]⟩
theorem e_value_Text : Oe cfg n_value_Text 2 [.t 4] c_value_Text := fun _ _ _ => evL_go (fn := i_value_Text) rfl rfl _ _ _
theorem o_value_Text (x0 x1 : D) : Of X_value_Text n_value_Text [.d x0, .d x1] c_value_Text := e_value_Text 0 _ _ rfl rfl
@[go_sem] theorem u_value_Text : Uc cfg n_value_Text := uc rfl
abbrev X_value_kid : Kx := ⟨cfg, 0, [.cell 6 (some 6), .t 7]⟩
theorem e_value_kid : Oe cfg n_value_kid 3 [.cell 6 (some 6), .t 7] c_value_kid := fun _ _ _ => evL_go (fn := i_value_kid) rfl rfl _ _ _
theorem o_value_kid (x0 x1 x2 : D) : Of X_value_kid n_value_kid [.d x0, .d x1, .d x2] c_value_kid := e_value_kid 0 _ _ rfl rfl
@[go_sem] theorem u_value_kid : Uc cfg n_value_kid := uc rfl
abbrev X_value_count : Kx := ⟨cfg, 0, [.t 4]⟩
theorem e_value_count : Oe cfg n_value_count 2 [.t 4] c_value_count := fun _ _ _ => evL_go (fn := i_value_count) rfl rfl _ _ _
theorem o_value_count (x0 x1 : D) : Of X_value_count n_value_count [.d x0, .d x1] c_value_count := e_value_count 0 _ _ rfl rfl
@[go_sem] theorem u_value_count : Uc cfg n_value_count := uc rfl
abbrev X_value_Signs : Kx := ⟨cfg, 0, [.t 2]⟩
theorem e_value_Signs : Oe cfg n_value_Signs 1 [.t 2] c_value_Signs := fun _ _ _ => evL_go (fn := i_value_Signs) rfl rfl _ _ _
theorem o_value_Signs (x0 : D) : Of X_value_Signs n_value_Signs [.d x0] c_value_Signs := e_value_Signs 0 _ _ rfl rfl
@[go_sem] theorem u_value_Signs : Uc cfg n_value_Signs := uc rfl
abbrev X_value_long : Kx := ⟨cfg, 0, [.t 4]⟩
theorem e_value_long : Oe cfg n_value_long 2 [.t 4] c_value_long := fun _ _ _ => evL_go (fn := i_value_long) rfl rfl _ _ _
theorem o_value_long (x0 x1 : D) : Of X_value_long n_value_long [.d x0, .d x1] c_value_long := e_value_long 0 _ _ rfl rfl
@[go_sem] theorem u_value_long : Uc cfg n_value_long := uc rfl
abbrev X_stamp_Check : Kx := ⟨cfg, 0, [.t 4]⟩
theorem e_stamp_Check : Oe cfg n_stamp_Check 2 [.t 4] c_stamp_Check := fun _ _ _ => evL_go (fn := i_stamp_Check) rfl rfl _ _ _
theorem o_stamp_Check (x0 x1 : D) : Of X_stamp_Check n_stamp_Check [.d x0, .d x1] c_stamp_Check := e_stamp_Check 0 _ _ rfl rfl
@[go_sem] theorem u_stamp_Check : Uc cfg n_stamp_Check := uc rfl
abbrev X_deci_size : Kx := ⟨cfg, 0, [.t 2]⟩
theorem e_deci_size : Oe cfg n_deci_size 1 [.t 2] c_deci_size := fun _ _ _ => evL_go (fn := i_deci_size) rfl rfl _ _ _
theorem o_deci_size (x0 : D) : Of X_deci_size n_deci_size [.d x0] c_deci_size := e_deci_size 0 _ _ rfl rfl
@[go_sem] theorem u_deci_size : Uc cfg n_deci_size := uc rfl
abbrev X_deci_Digits : Kx := ⟨cfg, 0, [.t 2]⟩
theorem e_deci_Digits : Oe cfg n_deci_Digits 1 [.t 2] c_deci_Digits := fun _ _ _ => evL_go (fn := i_deci_Digits) rfl rfl _ _ _
theorem o_deci_Digits (x0 : D) : Of X_deci_Digits n_deci_Digits [.d x0] c_deci_Digits := e_deci_Digits 0 _ _ rfl rfl
@[go_sem] theorem u_deci_Digits : Uc cfg n_deci_Digits := uc rfl
abbrev X_value_wide : Kx := ⟨cfg, 0, [.t 4]⟩
theorem e_value_wide : Oe cfg n_value_wide 2 [.t 4] c_value_wide := fun _ _ _ => evL_go (fn := i_value_wide) rfl rfl _ _ _
theorem o_value_wide (x0 x1 : D) : Of X_value_wide n_value_wide [.d x0, .d x1] c_value_wide := e_value_wide 0 _ _ rfl rfl
@[go_sem] theorem u_value_wide : Uc cfg n_value_wide := uc rfl
abbrev X_value_number : Kx := ⟨cfg, 0, [.t 4]⟩
theorem e_value_number : Oe cfg n_value_number 2 [.t 4] c_value_number := fun _ _ _ => evL_go (fn := i_value_number) rfl rfl _ _ _
theorem o_value_number (x0 x1 : D) : Of X_value_number n_value_number [.d x0, .d x1] c_value_number := e_value_number 0 _ _ rfl rfl
@[go_sem] theorem u_value_number : Uc cfg n_value_number := uc rfl
abbrev X_value_named : Kx := ⟨cfg, 0, [.t 4]⟩
theorem e_value_named : Oe cfg n_value_named 2 [.t 4] c_value_named := fun _ _ _ => evL_go (fn := i_value_named) rfl rfl _ _ _
theorem o_value_named (x0 x1 : D) : Of X_value_named n_value_named [.d x0, .d x1] c_value_named := e_value_named 0 _ _ rfl rfl
@[go_sem] theorem u_value_named : Uc cfg n_value_named := uc rfl
abbrev X_value_Check : Kx := ⟨cfg, 0, [.t 4]⟩
theorem e_value_Check : Oe cfg n_value_Check 2 [.t 4] c_value_Check := fun _ _ _ => evL_go (fn := i_value_Check) rfl rfl _ _ _
theorem o_value_Check (x0 x1 : D) : Of X_value_Check n_value_Check [.d x0, .d x1] c_value_Check := e_value_Check 0 _ _ rfl rfl
@[go_sem] theorem u_value_Check : Uc cfg n_value_Check := uc rfl
abbrev X_value_project : Kx := ⟨cfg, 0, [.cell 8 (some 5)]⟩
theorem e_value_project : Oe cfg n_value_project 4 [.cell 8 (some 5)] c_value_project := fun _ _ _ => evL_go (fn := i_value_project) rfl rfl _ _ _
theorem o_value_project (x0 x1 x2 x3 : D) : Of X_value_project n_value_project [.d x0, .d x1, .d x2, .d x3] c_value_project := e_value_project 0 _ _ rfl rfl
@[go_sem] theorem u_value_project : Uc cfg n_value_project := uc rfl
abbrev X_slices_Clone_Sbyte_byte : Kx := ⟨cfg, 0, [.t 2]⟩
theorem e_slices_Clone_Sbyte_byte : Oe cfg n_slices_Clone_Sbyte_byte 1 [.t 2] c_slices_Clone_Sbyte_byte := fun _ _ _ => evL_go (fn := i_slices_Clone_Sbyte_byte) rfl rfl _ _ _
theorem o_slices_Clone_Sbyte_byte (x0 : D) : Of X_slices_Clone_Sbyte_byte n_slices_Clone_Sbyte_byte [.d x0] c_slices_Clone_Sbyte_byte := e_slices_Clone_Sbyte_byte 0 _ _ rfl rfl
@[go_sem] theorem u_slices_Clone_Sbyte_byte : Uc cfg n_slices_Clone_Sbyte_byte := uc rfl
abbrev X_value_Clone : Kx := ⟨cfg, 0, [.cell 2 (some 5)]⟩
theorem e_value_Clone : Oe cfg n_value_Clone 1 [.cell 2 (some 5)] c_value_Clone := fun _ _ _ => evL_go (fn := i_value_Clone) rfl rfl _ _ _
theorem o_value_Clone (x0 : D) : Of X_value_Clone n_value_Clone [.d x0] c_value_Clone := e_value_Clone 0 _ _ rfl rfl
@[go_sem] theorem u_value_Clone : Uc cfg n_value_Clone := uc rfl
abbrev X_value_Project : Kx := ⟨cfg, 0, [.cell 6 (some 5)]⟩
theorem e_value_Project : Oe cfg n_value_Project 3 [.cell 6 (some 5)] c_value_Project := fun _ _ _ => evL_go (fn := i_value_Project) rfl rfl _ _ _
theorem o_value_Project (x0 x1 x2 : D) : Of X_value_Project n_value_Project [.d x0, .d x1, .d x2] c_value_Project := e_value_Project 0 _ _ rfl rfl
@[go_sem] theorem u_value_Project : Uc cfg n_value_Project := uc rfl
abbrev X_slices_Clone_Sstring_string : Kx := ⟨cfg, 0, [.t 2]⟩
theorem e_slices_Clone_Sstring_string : Oe cfg n_slices_Clone_Sstring_string 1 [.t 2] c_slices_Clone_Sstring_string := fun _ _ _ => evL_go (fn := i_slices_Clone_Sstring_string) rfl rfl _ _ _
theorem o_slices_Clone_Sstring_string (x0 : D) : Of X_slices_Clone_Sstring_string n_slices_Clone_Sstring_string [.d x0] c_slices_Clone_Sstring_string := e_slices_Clone_Sstring_string 0 _ _ rfl rfl
@[go_sem] theorem u_slices_Clone_Sstring_string : Uc cfg n_slices_Clone_Sstring_string := uc rfl
abbrev X_types_flatten : Kx := ⟨cfg, 0, [.t 8]⟩
theorem e_types_flatten : Oe cfg n_types_flatten 4 [.t 8] c_types_flatten := fun _ _ _ => evL_go (fn := i_types_flatten) rfl rfl _ _ _
theorem o_types_flatten (x0 x1 x2 x3 : D) : Of X_types_flatten n_types_flatten [.d x0, .d x1, .d x2, .d x3] c_types_flatten := e_types_flatten 0 _ _ rfl rfl
@[go_sem] theorem u_types_flatten : Uc cfg n_types_flatten := uc rfl
abbrev X_types_right : Kx := ⟨cfg, 0, [.t 2]⟩
theorem e_types_right : Oe cfg n_types_right 1 [.t 2] c_types_right := fun _ _ _ => evL_go (fn := i_types_right) rfl rfl _ _ _
theorem o_types_right (x0 : D) : Of X_types_right n_types_right [.d x0] c_types_right := e_types_right 0 _ _ rfl rfl
@[go_sem] theorem u_types_right : Uc cfg n_types_right := uc rfl
abbrev X_types_walk : Kx := ⟨cfg, 0, [.t 6]⟩
theorem e_types_walk : Oe cfg n_types_walk 3 [.t 6] c_types_walk := fun _ _ _ => evL_go (fn := i_types_walk) rfl rfl _ _ _
theorem o_types_walk (x0 x1 x2 : D) : Of X_types_walk n_types_walk [.d x0, .d x1, .d x2] c_types_walk := e_types_walk 0 _ _ rfl rfl
@[go_sem] theorem u_types_walk : Uc cfg n_types_walk := uc rfl
abbrev X_types_Check : Kx := ⟨cfg, 0, [.t 2]⟩
theorem e_types_Check : Oe cfg n_types_Check 1 [.t 2] c_types_Check := fun _ _ _ => evL_go (fn := i_types_Check) rfl rfl _ _ _
theorem o_types_Check (x0 : D) : Of X_types_Check n_types_Check [.d x0] c_types_Check := e_types_Check 0 _ _ rfl rfl
@[go_sem] theorem u_types_Check : Uc cfg n_types_Check := uc rfl
abbrev X_types_Flatten : Kx := ⟨cfg, 0, [.t 2]⟩
theorem e_types_Flatten : Oe cfg n_types_Flatten 1 [.t 2] c_types_Flatten := fun _ _ _ => evL_go (fn := i_types_Flatten) rfl rfl _ _ _
theorem o_types_Flatten (x0 : D) : Of X_types_Flatten n_types_Flatten [.d x0] c_types_Flatten := e_types_Flatten 0 _ _ rfl rfl
@[go_sem] theorem u_types_Flatten : Uc cfg n_types_Flatten := uc rfl
abbrev X_cmp_Or_int : Kx := ⟨cfg, 0, [.t 2]⟩
theorem e_cmp_Or_int : Oe cfg n_cmp_Or_int 1 [.t 2] c_cmp_Or_int := fun _ _ _ => evL_go (fn := i_cmp_Or_int) rfl rfl _ _ _
theorem o_cmp_Or_int (x0 : D) : Of X_cmp_Or_int n_cmp_Or_int [.d x0] c_cmp_Or_int := e_cmp_Or_int 0 _ _ rfl rfl
@[go_sem] theorem u_cmp_Or_int : Uc cfg n_cmp_Or_int := uc rfl
abbrev X_cmp_isNaN_int : Kx := ⟨cfg, 0, [.t 2]⟩
theorem e_cmp_isNaN_int : Oe cfg n_cmp_isNaN_int 1 [.t 2] c_cmp_isNaN_int := fun _ _ _ => evL_go (fn := i_cmp_isNaN_int) rfl rfl _ _ _
theorem o_cmp_isNaN_int (x0 : D) : Of X_cmp_isNaN_int n_cmp_isNaN_int [.d x0] c_cmp_isNaN_int := e_cmp_isNaN_int 0 _ _ rfl rfl
@[go_sem] theorem u_cmp_isNaN_int : Uc cfg n_cmp_isNaN_int := uc rfl
abbrev X_cmp_Compare_int : Kx := ⟨cfg, 0, [.t 4]⟩
theorem e_cmp_Compare_int : Oe cfg n_cmp_Compare_int 2 [.t 4] c_cmp_Compare_int := fun _ _ _ => evL_go (fn := i_cmp_Compare_int) rfl rfl _ _ _
theorem o_cmp_Compare_int (x0 x1 : D) : Of X_cmp_Compare_int n_cmp_Compare_int [.d x0, .d x1] c_cmp_Compare_int := e_cmp_Compare_int 0 _ _ rfl rfl
@[go_sem] theorem u_cmp_Compare_int : Uc cfg n_cmp_Compare_int := uc rfl
abbrev X_cmp_isNaN_int64 : Kx := ⟨cfg, 0, [.t 2]⟩
theorem e_cmp_isNaN_int64 : Oe cfg n_cmp_isNaN_int64 1 [.t 2] c_cmp_isNaN_int64 := fun _ _ _ => evL_go (fn := i_cmp_isNaN_int64) rfl rfl _ _ _
theorem o_cmp_isNaN_int64 (x0 : D) : Of X_cmp_isNaN_int64 n_cmp_isNaN_int64 [.d x0] c_cmp_isNaN_int64 := e_cmp_isNaN_int64 0 _ _ rfl rfl
@[go_sem] theorem u_cmp_isNaN_int64 : Uc cfg n_cmp_isNaN_int64 := uc rfl
abbrev X_cmp_Compare_int64 : Kx := ⟨cfg, 0, [.t 4]⟩
theorem e_cmp_Compare_int64 : Oe cfg n_cmp_Compare_int64 2 [.t 4] c_cmp_Compare_int64 := fun _ _ _ => evL_go (fn := i_cmp_Compare_int64) rfl rfl _ _ _
theorem o_cmp_Compare_int64 (x0 x1 : D) : Of X_cmp_Compare_int64 n_cmp_Compare_int64 [.d x0, .d x1] c_cmp_Compare_int64 := e_cmp_Compare_int64 0 _ _ rfl rfl
@[go_sem] theorem u_cmp_Compare_int64 : Uc cfg n_cmp_Compare_int64 := uc rfl
abbrev X_bytes_Compare : Kx := ⟨cfg, 0, [.t 4]⟩
theorem e_bytes_Compare : Oe cfg n_bytes_Compare 2 [.t 4] c_bytes_Compare := fun _ _ _ => evL_go (fn := i_bytes_Compare) rfl rfl _ _ _
theorem o_bytes_Compare (x0 x1 : D) : Of X_bytes_Compare n_bytes_Compare [.d x0, .d x1] c_bytes_Compare := e_bytes_Compare 0 _ _ rfl rfl
@[go_sem] theorem u_bytes_Compare : Uc cfg n_bytes_Compare := uc rfl
abbrev X_value_text : Kx := ⟨cfg, 0, [.t 2]⟩
theorem e_value_text : Oe cfg n_value_text 1 [.t 2] c_value_text := fun _ _ _ => evL_go (fn := i_value_text) rfl rfl _ _ _
theorem o_value_text (x0 : D) : Of X_value_text n_value_text [.d x0] c_value_text := e_value_text 0 _ _ rfl rfl
@[go_sem] theorem u_value_text : Uc cfg n_value_text := uc rfl
abbrev X_types_Leaf : Kx := ⟨cfg, 0, [.t 2]⟩
theorem e_types_Leaf : Oe cfg n_types_Leaf 1 [.t 2] c_types_Leaf := fun _ _ _ => evL_go (fn := i_types_Leaf) rfl rfl _ _ _
theorem o_types_Leaf (x0 : D) : Of X_types_Leaf n_types_Leaf [.d x0] c_types_Leaf := e_types_Leaf 0 _ _ rfl rfl
@[go_sem] theorem u_types_Leaf : Uc cfg n_types_Leaf := uc rfl
abbrev X_value_Compare : Kx := ⟨cfg, 0, [.t 6, .t 7]⟩
theorem e_value_Compare : Oe cfg n_value_Compare 3 [.t 6, .t 7] c_value_Compare := fun _ _ _ => evL_go (fn := i_value_Compare) rfl rfl _ _ _
theorem o_value_Compare (x0 x1 x2 : D) : Of X_value_Compare n_value_Compare [.d x0, .d x1, .d x2] c_value_Compare := e_value_Compare 0 _ _ rfl rfl
@[go_sem] theorem u_value_Compare : Uc cfg n_value_Compare := uc rfl
abbrev X_ingotlaw14_known : Kx := ⟨cfg, 0, [.t 0]⟩
theorem e_ingotlaw14_known : Oe cfg n_ingotlaw14_known 0 [.t 0] c_ingotlaw14_known := fun _ _ _ => evL_go (fn := i_ingotlaw14_known) rfl rfl _ _ _
theorem o_ingotlaw14_known : Of X_ingotlaw14_known n_ingotlaw14_known [] c_ingotlaw14_known := e_ingotlaw14_known 0 _ _ rfl rfl
@[go_sem] theorem u_ingotlaw14_known : Uc cfg n_ingotlaw14_known := uc rfl
abbrev X_ingotlaw14_ValueTwo : Kx := ⟨cfg, 0, [.t 6]⟩
theorem e_ingotlaw14_ValueTwo : Oe cfg n_ingotlaw14_ValueTwo 3 [.t 6] c_ingotlaw14_ValueTwo := fun _ _ _ => evL_go (fn := i_ingotlaw14_ValueTwo) rfl rfl _ _ _
theorem o_ingotlaw14_ValueTwo (x0 x1 x2 : D) : Of X_ingotlaw14_ValueTwo n_ingotlaw14_ValueTwo [.d x0, .d x1, .d x2] c_ingotlaw14_ValueTwo := e_ingotlaw14_ValueTwo 0 _ _ rfl rfl
@[go_sem] theorem u_ingotlaw14_ValueTwo : Uc cfg n_ingotlaw14_ValueTwo := uc rfl
@[go_sem] theorem u_ingotlaw14_spoil : Uc cfg n_ingotlaw14_spoil := uc rfl
@[go_sem] theorem u_ingotref13_flat : Uc cfg n_ingotref13_flat := uc rfl
@[go_sem] theorem u_strings_Join : Uc cfg n_strings_Join := uc rfl
@[go_sem] theorem u_strconv_FormatInt : Uc cfg n_strconv_FormatInt := uc rfl
@[go_sem] theorem u_value_hex : Uc cfg n_value_hex := uc rfl
@[go_sem] theorem u_strings_Cut : Uc cfg n_strings_Cut := uc rfl
@[go_sem] theorem u_stamp_Text : Uc cfg n_stamp_Text := uc rfl
@[go_sem] theorem u_deci_Text : Uc cfg n_deci_Text := uc rfl
@[go_sem] theorem u_strconv_FormatBool : Uc cfg n_strconv_FormatBool := uc rfl
@[go_sem] theorem u_types_names : Uc cfg n_types_names := uc rfl
@[go_sem] theorem u_bytealg_Compare : Uc cfg n_bytealg_Compare := uc rfl
@[go_sem] theorem u_slices_Clip_Sapi_Value_api_Value : Uk cfg n_slices_Clip_Sapi_Value_api_Value := uk rfl
@[go_sem] theorem u_slices_Clip_Sbyte_byte : Uk cfg n_slices_Clip_Sbyte_byte := uk rfl
@[go_sem] theorem u_slices_Clip_Stypes_Node_types_Node : Uk cfg n_slices_Clip_Stypes_Node_types_Node := uk rfl
@[go_sem] theorem u_slices_Clip_Sint_int : Uk cfg n_slices_Clip_Sint_int := uk rfl
@[go_sem] theorem u_slices_Clip_Sstring_string : Uk cfg n_slices_Clip_Sstring_string := uk rfl

end Go.Proofs.YtnabebdceaoiiaaGreatDoor
