/- The evaluator's code of functions that the rows reach, printed by program and checked against the program; of the others what their code is reckoned by. -/
import Derived.Test.YtpnhljhciibfnaaGreatDoorL14
import Derived.Test.YtpnhljhciibfnaaGreatDoorChecked
namespace Go.Proofs.YtpnhljhciibfnaaGreatDoor
open Go.Ev Go
variable {X : Kx} {K : List Kf} {s : St}

def n_ingotlaw21_FootTypes : FuncId := 4
def n_ingotlaw21_known : FuncId := 8
def n_ingotlaw13_Few : FuncId := 9
def n_ingotref13_Check : FuncId := 10
def n_types_Flatten : FuncId := 11
def n_foot_ReadStats : FuncId := 12
def n_foot_PutStats : FuncId := 17
def n_foot_PutTypes : FuncId := 19
def n_ingotref21_PutTypes : FuncId := 20
def n_foot_Encode : FuncId := 21
def n_foot_Decode : FuncId := 22
def n_ingotref13_Flatten : FuncId := 23
def n_ingotref3_PutBytes : FuncId := 26
def n_ingotref3_PutUint : FuncId := 27
def n_ingotref13_Same : FuncId := 29
def n_stat_Same : FuncId := 30
def n_ingotlaw13_few : FuncId := 31
def n_ingotref13_check : FuncId := 32
def n_types_Check : FuncId := 33
def n_slices_Clip_Stypes_Node_types_Node : FuncId := 34
def n_types_flatten : FuncId := 35
def n_pb_PutUint : FuncId := 57
def n_pb_PutBytes : FuncId := 58
def n_ingotref1_PutVar : FuncId := 61
def n_slices_Clone_Sbyte_byte : FuncId := 63
def n_nums_PutVar : FuncId := 64
def n_ingotref13_flat : FuncId := 73
def n_ingotref3_may : FuncId := 75
def n_ingotref13_own : FuncId := 77
def n_types_walk : FuncId := 78
def n_slices_Clip_Sstring_string : FuncId := 79
def n_slices_Clone_Sstring_string : FuncId := 80
def n_slices_Clip_Sint_int : FuncId := 81
def n_slices_Clip_Sbyte_byte : FuncId := 85
def n_pb_head : FuncId := 107
def n_types_right : FuncId := 126
def n_slices_Backward_Spb_Field_pb_Field : FuncId := 128
def n_types_names : FuncId := 149
def n_slices_Backward_Spb_Field_pb_Field_1 : FuncId := 150
/-! ingot/ingotref13.Flatten -/
@[go_sem] def r_ingotref13_Flatten_0_o : Ops := [
oo 1 (.box 6 (.t 0)), oo 2 (.asg (.c .nilS))]
def r_ingotref13_Flatten_0 := rg r_ingotref13_Flatten_0_o [1]
@[go_sem] theorem r_ingotref13_Flatten_0_u : Gr X K s r_ingotref13_Flatten_0 r_ingotref13_Flatten_0_o [1] := go_region _ _
@[go_sem] def r_ingotref13_Flatten_1_o : Ops := [
oo 3 (.load (some 6) (.t 1)), oo 4 (.call false n_ingotref13_Check [(.t 3)]), oo 5 (.bin .neq (.t 4) (ci 0))]
def r_ingotref13_Flatten_1 := rg r_ingotref13_Flatten_1_o [1, 5]
@[go_sem] theorem r_ingotref13_Flatten_1_u : Gr X K s r_ingotref13_Flatten_1 r_ingotref13_Flatten_1_o [1, 5] := go_region _ _
@[go_sem] def r_ingotref13_Flatten_2_o : Ops := [
oo 2 (.asg (.c .nilS))]
def r_ingotref13_Flatten_2 := rg r_ingotref13_Flatten_2_o [2]
@[go_sem] theorem r_ingotref13_Flatten_2_u : Gr X K s r_ingotref13_Flatten_2 r_ingotref13_Flatten_2_o [2] := go_region _ _
@[go_sem] def r_ingotref13_Flatten_3_o : Ops := [
oo 6 (.load (some 6) (.t 1)), oo 7 (.callg true n_ingotref13_flat [(.c .nilS), (.t 6), (ci (-1)), (ci 1)] 0), oo 2 (.asg (.t 7))]
def r_ingotref13_Flatten_3 := rg r_ingotref13_Flatten_3_o [2]
@[go_sem] theorem r_ingotref13_Flatten_3_u : Gr X K s r_ingotref13_Flatten_3 r_ingotref13_Flatten_3_o [2] := go_region _ _
def c_ingotref13_Flatten : ICode := (.seq r_ingotref13_Flatten_0 (.seq r_ingotref13_Flatten_1 (.cond (.t 5) (.seq r_ingotref13_Flatten_2 .ret) (.seq r_ingotref13_Flatten_3 .ret))))
def i_ingotref13_Flatten : IFunc := ⟨1, [.t 2], c_ingotref13_Flatten⟩
def a_ingotref13_Flatten : Advice := ⟨[7], [(3, [2]), (2, [2]), (1, [1, 5]), (0, [1])], [], [], [(7, 0)], []⟩
/-! ingot/ingotref21.PutTypes -/
@[go_sem] def r_ingotref21_PutTypes_0_o : Ops := [
oo 3 (.box 6 (.t 1)), oo 4 (.asg (.c .nilS))]
def r_ingotref21_PutTypes_0 := rg r_ingotref21_PutTypes_0_o [0, 3]
@[go_sem] theorem r_ingotref21_PutTypes_0_u : Gr X K s r_ingotref21_PutTypes_0 r_ingotref21_PutTypes_0_o [0, 3] := go_region _ _
@[go_sem] def r_ingotref21_PutTypes_1_o : Ops := [
oo 13 (.load (some 6) (.t 3)), oo 14 (.call false n_ingotref13_Flatten [(.t 13)]), oo 5 (.asg (.t 14))]
def r_ingotref21_PutTypes_1 := rg r_ingotref21_PutTypes_1_o [0, 5]
@[go_sem] theorem r_ingotref21_PutTypes_1_u : Gr X K s r_ingotref21_PutTypes_1 r_ingotref21_PutTypes_1_o [0, 5] := go_region _ _
@[go_sem] def r_ingotref21_PutTypes_2_o : Ops := [
oo 6 (.asg (ci 0))]
def r_ingotref21_PutTypes_2 := rg r_ingotref21_PutTypes_2_o [0, 5, 6]
@[go_sem] theorem r_ingotref21_PutTypes_2_u : Gr X K s r_ingotref21_PutTypes_2 r_ingotref21_PutTypes_2_o [0, 5, 6] := go_region _ _
@[go_sem] def r_ingotref21_PutTypes_3_o : Ops := [
oo 15 (.mv (.t 6)), oo 16 (.mv (.t 5)), oo 17 (.len false (.t 16)), oo 18 (.bin .lss (.t 15) (.t 17))]
def r_ingotref21_PutTypes_3 := rg r_ingotref21_PutTypes_3_o [0, 5, 6, 18]
@[go_sem] theorem r_ingotref21_PutTypes_3_u : Gr X K s r_ingotref21_PutTypes_3 r_ingotref21_PutTypes_3_o [0, 5, 6, 18] := go_region _ _
@[go_sem] def r_ingotref21_PutTypes_4_o : Ops := [
oo 21 (.mv (.t 5)), oo 22 (.mv (.t 6)), oo 23 (.idxA 9 (.t 21) (.t 22)), oo 24 (.fieldA 0 (.t 23)), oo 25 (.fieldA 0 (.t 24)), oo 26 (.load none (.t 25)), oo 27 (.cvInt .u64 (.t 26)), oo 28 (.callg true n_ingotref3_PutUint [(.c .nilS), (ci 1), (.t 27)] 0), oo 7 (.asg (.t 28))]
def r_ingotref21_PutTypes_4 := rg r_ingotref21_PutTypes_4_o [0, 5, 6, 7]
@[go_sem] theorem r_ingotref21_PutTypes_4_u : Gr X K s r_ingotref21_PutTypes_4 r_ingotref21_PutTypes_4_o [0, 5, 6, 7] := go_region _ _
@[go_sem] def r_ingotref21_PutTypes_5_o : Ops := [
oo 8 (.asg (.c .nilS))]
def r_ingotref21_PutTypes_5 := rg r_ingotref21_PutTypes_5_o [0, 5, 6, 7, 8]
@[go_sem] theorem r_ingotref21_PutTypes_5_u : Gr X K s r_ingotref21_PutTypes_5 r_ingotref21_PutTypes_5_o [0, 5, 6, 7, 8] := go_region _ _
@[go_sem] def r_ingotref21_PutTypes_6_o : Ops := [
oo 9 (.asg (ci 0))]
def r_ingotref21_PutTypes_6 := rg r_ingotref21_PutTypes_6_o [0, 5, 6, 7, 8, 9]
@[go_sem] theorem r_ingotref21_PutTypes_6_u : Gr X K s r_ingotref21_PutTypes_6 r_ingotref21_PutTypes_6_o [0, 5, 6, 7, 8, 9] := go_region _ _
@[go_sem] def r_ingotref21_PutTypes_7_o : Ops := [
oo 29 (.mv (.t 9)), oo 30 (.mv (.t 5)), oo 31 (.mv (.t 6)), oo 32 (.idxA 9 (.t 30) (.t 31)), oo 33 (.fieldA 6 (.t 32)), oo 34 (.load none (.t 33)), oo 35 (.len false (.t 34)), oo 36 (.bin .lss (.t 29) (.t 35))]
def r_ingotref21_PutTypes_7 := rg r_ingotref21_PutTypes_7_o [0, 5, 6, 7, 8, 9, 36]
@[go_sem] theorem r_ingotref21_PutTypes_7_u : Gr X K s r_ingotref21_PutTypes_7 r_ingotref21_PutTypes_7_o [0, 5, 6, 7, 8, 9, 36] := go_region _ _
@[go_sem] def r_ingotref21_PutTypes_8_o : Ops := [
oo 39 (.mv (.t 8)), oo 40 (.mv (.t 5)), oo 41 (.mv (.t 6)), oo 42 (.idxA 9 (.t 40) (.t 41)), oo 43 (.fieldA 6 (.t 42)), oo 44 (.load none (.t 43)), oo 45 (.mv (.t 9)), oo 46 (.idxA 1 (.t 44) (.t 45)), oo 47 (.load none (.t 46)), oo 48 (.cvInt .u64 (.t 47)), oo 49 (.callg true n_ingotref1_PutVar [(.t 39), (.t 48)] 0), oo 8 (.asg (.t 49))]
def r_ingotref21_PutTypes_8 := rg r_ingotref21_PutTypes_8_o [0, 5, 6, 7, 8, 9]
@[go_sem] theorem r_ingotref21_PutTypes_8_u : Gr X K s r_ingotref21_PutTypes_8 r_ingotref21_PutTypes_8_o [0, 5, 6, 7, 8, 9] := go_region _ _
@[go_sem] def r_ingotref21_PutTypes_9_o : Ops := [
oo 37 (.mv (.t 9)), oo 38 (.bin .add (.t 37) (ci 1)), oo 9 (.asg (.t 38))]
def r_ingotref21_PutTypes_9 := rg r_ingotref21_PutTypes_9_o [0, 5, 6, 7, 8, 9]
@[go_sem] theorem r_ingotref21_PutTypes_9_u : Gr X K s r_ingotref21_PutTypes_9 r_ingotref21_PutTypes_9_o [0, 5, 6, 7, 8, 9] := go_region _ _
def b_ingotref21_PutTypes_10 : ICode := (.seq (.seq r_ingotref21_PutTypes_7 (.cond (.t 36) .skip (.exit 2))) (.seq (.block 3 r_ingotref21_PutTypes_8) r_ingotref21_PutTypes_9))
@[go_sem] theorem b_ingotref21_PutTypes_10_u : Gn X K s b_ingotref21_PutTypes_10 (.seq (.seq r_ingotref21_PutTypes_7 (.cond (.t 36) .skip (.exit 2))) (.seq (.block 3 r_ingotref21_PutTypes_8) r_ingotref21_PutTypes_9)) := rfl
@[go_sem] def r_ingotref21_PutTypes_11_o : Ops := [
oo 50 (.mv (.t 8)), oo 51 (.len false (.t 50)), oo 52 (.bin .gtr (.t 51) (ci 0))]
def r_ingotref21_PutTypes_11 := rg r_ingotref21_PutTypes_11_o [0, 5, 6, 7, 8, 52]
@[go_sem] theorem r_ingotref21_PutTypes_11_u : Gr X K s r_ingotref21_PutTypes_11 r_ingotref21_PutTypes_11_o [0, 5, 6, 7, 8, 52] := go_region _ _
@[go_sem] def r_ingotref21_PutTypes_12_o : Ops := [
oo 53 (.mv (.t 7)), oo 54 (.mv (.t 8)), oo 55 (.callg true n_ingotref3_PutBytes [(.t 53), (ci 2), (.t 54)] 0), oo 7 (.asg (.t 55))]
def r_ingotref21_PutTypes_12 := rg r_ingotref21_PutTypes_12_o [0, 5, 6, 7]
@[go_sem] theorem r_ingotref21_PutTypes_12_u : Gr X K s r_ingotref21_PutTypes_12 r_ingotref21_PutTypes_12_o [0, 5, 6, 7] := go_region _ _
@[go_sem] def r_ingotref21_PutTypes_13_o : Ops := [
oo 10 (.asg (ci 0))]
def r_ingotref21_PutTypes_13 := rg r_ingotref21_PutTypes_13_o [0, 5, 6, 7, 10]
@[go_sem] theorem r_ingotref21_PutTypes_13_u : Gr X K s r_ingotref21_PutTypes_13 r_ingotref21_PutTypes_13_o [0, 5, 6, 7, 10] := go_region _ _
@[go_sem] def r_ingotref21_PutTypes_14_o : Ops := [
oo 56 (.mv (.t 10)), oo 57 (.mv (.t 5)), oo 58 (.mv (.t 6)), oo 59 (.idxA 9 (.t 57) (.t 58)), oo 60 (.fieldA 0 (.t 59)), oo 61 (.fieldA 1 (.t 60)), oo 62 (.load none (.t 61)), oo 63 (.len false (.t 62)), oo 64 (.bin .lss (.t 56) (.t 63))]
def r_ingotref21_PutTypes_14 := rg r_ingotref21_PutTypes_14_o [0, 5, 6, 7, 10, 64]
@[go_sem] theorem r_ingotref21_PutTypes_14_u : Gr X K s r_ingotref21_PutTypes_14 r_ingotref21_PutTypes_14_o [0, 5, 6, 7, 10, 64] := go_region _ _
@[go_sem] def r_ingotref21_PutTypes_15_o : Ops := [
oo 67 (.mv (.t 7)), oo 68 (.mv (.t 5)), oo 69 (.mv (.t 6)), oo 70 (.idxA 9 (.t 68) (.t 69)), oo 71 (.fieldA 0 (.t 70)), oo 72 (.fieldA 1 (.t 71)), oo 73 (.load none (.t 72)), oo 74 (.mv (.t 10)), oo 75 (.idxA 1 (.t 73) (.t 74)), oo 76 (.load none (.t 75)), oo 77 (.s2b false (.t 76)), oo 78 (.callg true n_ingotref3_PutBytes [(.t 67), (ci 3), (.t 77)] 0), oo 7 (.asg (.t 78))]
def r_ingotref21_PutTypes_15 := rg r_ingotref21_PutTypes_15_o [0, 5, 6, 7, 10]
@[go_sem] theorem r_ingotref21_PutTypes_15_u : Gr X K s r_ingotref21_PutTypes_15 r_ingotref21_PutTypes_15_o [0, 5, 6, 7, 10] := go_region _ _
@[go_sem] def r_ingotref21_PutTypes_16_o : Ops := [
oo 65 (.mv (.t 10)), oo 66 (.bin .add (.t 65) (ci 1)), oo 10 (.asg (.t 66))]
def r_ingotref21_PutTypes_16 := rg r_ingotref21_PutTypes_16_o [0, 5, 6, 7, 10]
@[go_sem] theorem r_ingotref21_PutTypes_16_u : Gr X K s r_ingotref21_PutTypes_16 r_ingotref21_PutTypes_16_o [0, 5, 6, 7, 10] := go_region _ _
def b_ingotref21_PutTypes_17 : ICode := (.seq (.seq r_ingotref21_PutTypes_14 (.cond (.t 64) .skip (.exit 4))) (.seq (.block 5 r_ingotref21_PutTypes_15) r_ingotref21_PutTypes_16))
@[go_sem] theorem b_ingotref21_PutTypes_17_u : Gn X K s b_ingotref21_PutTypes_17 (.seq (.seq r_ingotref21_PutTypes_14 (.cond (.t 64) .skip (.exit 4))) (.seq (.block 5 r_ingotref21_PutTypes_15) r_ingotref21_PutTypes_16)) := rfl
@[go_sem] def r_ingotref21_PutTypes_18_o : Ops := [
oo 11 (.asg (ci 0))]
def r_ingotref21_PutTypes_18 := rg r_ingotref21_PutTypes_18_o [0, 5, 6, 7, 11]
@[go_sem] theorem r_ingotref21_PutTypes_18_u : Gr X K s r_ingotref21_PutTypes_18 r_ingotref21_PutTypes_18_o [0, 5, 6, 7, 11] := go_region _ _
@[go_sem] def r_ingotref21_PutTypes_19_o : Ops := [
oo 79 (.mv (.t 11)), oo 80 (.bin .lss (.t 79) (ci 3))]
def r_ingotref21_PutTypes_19 := rg r_ingotref21_PutTypes_19_o [0, 5, 6, 7, 11, 80]
@[go_sem] theorem r_ingotref21_PutTypes_19_u : Gr X K s r_ingotref21_PutTypes_19 r_ingotref21_PutTypes_19_o [0, 5, 6, 7, 11, 80] := go_region _ _
@[go_sem] def r_ingotref21_PutTypes_20_o : Ops := [
oo 83 (.mv (.t 5)), oo 84 (.mv (.t 6)), oo 85 (.idxA 9 (.t 83) (.t 84)), oo 86 (.fieldA 0 (.t 85)), oo 87 (.fieldA 3 (.t 86)), oo 88 (.load none (.t 87)), oo 89 (.mv (.t 5)), oo 90 (.mv (.t 6)), oo 91 (.idxA 9 (.t 89) (.t 90)), oo 92 (.fieldA 0 (.t 91)), oo 93 (.fieldA 4 (.t 92)), oo 94 (.load none (.t 93)), oo 95 (.mv (.t 5)), oo 96 (.mv (.t 6)), oo 97 (.idxA 9 (.t 95) (.t 96)), oo 98 (.fieldA 0 (.t 97)), oo 99 (.fieldA 5 (.t 98)), oo 100 (.load none (.t 99)), oo 101 (.lit false 1 3 (.int .i64 0) [(0, (.t 88)), (1, (.t 94)), (2, (.t 100))]), oo 102 (.mv (.t 11)), oo 103 (.idxA 1 (.t 101) (.t 102)), oo 104 (.load none (.t 103)), oo 12 (.asg (.t 104))]
def r_ingotref21_PutTypes_20_n : List (Nat × Nat) := [(0, 1), (0, 6), (1, 6), (2, 6), (3, 6), (4, 6), (5, 6), (0, 7), (1, 7), (2, 7), (3, 7), (4, 7), (5, 7), (6, 7), (0, 8), (1, 8), (2, 8), (3, 8), (4, 8), (5, 8), (0, 9), (1, 9), (2, 9), (3, 9), (4, 9), (5, 9), (0, 10), (1, 10), (2, 10), (3, 10), (4, 10), (5, 10), (0, 11), (1, 11), (2, 11), (3, 11), (4, 11), (5, 11), (0, 12), (1, 12), (2, 12), (3, 12), (4, 12), (5, 12), (6, 12), (7, 12), (8, 12), (9, 12), (10, 12), (11, 12), (0, 13), (1, 13), (2, 13), (3, 13), (4, 13), (5, 13), (6, 13), (7, 13), (8, 13), (9, 13), (10, 13), (11, 13), (12, 13), (0, 14), (1, 14), (2, 14), (3, 14), (4, 14), (5, 14), (6, 14), (7, 14), (8, 14), (9, 14), (10, 14), (11, 14), (0, 15), (1, 15), (2, 15), (3, 15), (4, 15), (5, 15), (6, 15), (7, 15), (8, 15), (9, 15), (10, 15), (11, 15), (0, 16), (1, 16), (2, 16), (3, 16), (4, 16), (5, 16), (6, 16), (7, 16), (8, 16), (9, 16), (10, 16), (11, 16), (0, 17), (1, 17), (2, 17), (3, 17), (4, 17), (5, 17), (6, 17), (7, 17), (8, 17), (9, 17), (10, 17), (11, 17), (0, 19), (1, 19), (2, 19), (3, 19), (4, 19), (5, 19), (6, 19), (7, 19), (8, 19), (9, 19), (10, 19), (11, 19), (12, 19), (13, 19), (14, 19), (15, 19), (16, 19), (17, 19), (18, 19)]
def r_ingotref21_PutTypes_20 : ICode := .region r_ingotref21_PutTypes_20_o r_ingotref21_PutTypes_20_n [0, 5, 6, 7, 11, 12]
@[go_sem] theorem r_ingotref21_PutTypes_20_u : go X (.c r_ingotref21_PutTypes_20 :: K) s = goRU X [] r_ingotref21_PutTypes_20_n r_ingotref21_PutTypes_20_o [0, 5, 6, 7, 11, 12] K s := go_regionU' _ _ _ _
@[go_sem] def r_ingotref21_PutTypes_21_o : Ops := [
oo 105 (.mv (.t 12)), oo 106 (.bin .neq (.t 105) (ci 0))]
def r_ingotref21_PutTypes_21 := rg r_ingotref21_PutTypes_21_o [0, 5, 6, 7, 11, 12, 106]
@[go_sem] theorem r_ingotref21_PutTypes_21_u : Gr X K s r_ingotref21_PutTypes_21 r_ingotref21_PutTypes_21_o [0, 5, 6, 7, 11, 12, 106] := go_region _ _
@[go_sem] def r_ingotref21_PutTypes_22_o : Ops := [
oo 107 (.mv (.t 7)), oo 108 (.mv (.t 11)), oo 109 (.bin .add (ci 4) (.t 108)), oo 110 (.mv (.t 12)), oo 111 (.cvInt .u64 (.t 110)), oo 112 (.callg true n_ingotref3_PutUint [(.t 107), (.t 109), (.t 111)] 0), oo 7 (.asg (.t 112))]
def r_ingotref21_PutTypes_22 := rg r_ingotref21_PutTypes_22_o [0, 5, 6, 7, 11]
@[go_sem] theorem r_ingotref21_PutTypes_22_u : Gr X K s r_ingotref21_PutTypes_22 r_ingotref21_PutTypes_22_o [0, 5, 6, 7, 11] := go_region _ _
@[go_sem] def r_ingotref21_PutTypes_23_o : Ops := [
oo 81 (.mv (.t 11)), oo 82 (.bin .add (.t 81) (ci 1)), oo 11 (.asg (.t 82))]
def r_ingotref21_PutTypes_23 := rg r_ingotref21_PutTypes_23_o [0, 5, 6, 7, 11]
@[go_sem] theorem r_ingotref21_PutTypes_23_u : Gr X K s r_ingotref21_PutTypes_23 r_ingotref21_PutTypes_23_o [0, 5, 6, 7, 11] := go_region _ _
def b_ingotref21_PutTypes_24 : ICode := (.seq (.seq r_ingotref21_PutTypes_19 (.cond (.t 80) .skip (.exit 6))) (.seq (.block 7 (.seq r_ingotref21_PutTypes_20 (.seq r_ingotref21_PutTypes_21 (.cond (.t 106) r_ingotref21_PutTypes_22 .skip)))) r_ingotref21_PutTypes_23))
@[go_sem] theorem b_ingotref21_PutTypes_24_u : Gn X K s b_ingotref21_PutTypes_24 (.seq (.seq r_ingotref21_PutTypes_19 (.cond (.t 80) .skip (.exit 6))) (.seq (.block 7 (.seq r_ingotref21_PutTypes_20 (.seq r_ingotref21_PutTypes_21 (.cond (.t 106) r_ingotref21_PutTypes_22 .skip)))) r_ingotref21_PutTypes_23)) := rfl
@[go_sem] def r_ingotref21_PutTypes_25_o : Ops := [
oo 113 (.mv (.t 0)), oo 114 (.mv (.t 7)), oo 115 (.callg true n_ingotref3_PutBytes [(.t 113), (ci 4), (.t 114)] 0), oo 0 (.asg (.t 115))]
def r_ingotref21_PutTypes_25 := rg r_ingotref21_PutTypes_25_o [0, 5, 6]
@[go_sem] theorem r_ingotref21_PutTypes_25_u : Gr X K s r_ingotref21_PutTypes_25 r_ingotref21_PutTypes_25_o [0, 5, 6] := go_region _ _
@[go_sem] def r_ingotref21_PutTypes_26_o : Ops := [
oo 19 (.mv (.t 6)), oo 20 (.bin .add (.t 19) (ci 1)), oo 6 (.asg (.t 20))]
def r_ingotref21_PutTypes_26 := rg r_ingotref21_PutTypes_26_o [0, 5, 6]
@[go_sem] theorem r_ingotref21_PutTypes_26_u : Gr X K s r_ingotref21_PutTypes_26 r_ingotref21_PutTypes_26_o [0, 5, 6] := go_region _ _
def b_ingotref21_PutTypes_27 : ICode := (.seq (.seq r_ingotref21_PutTypes_3 (.cond (.t 18) .skip (.exit 0))) (.seq (.block 1 (.seq r_ingotref21_PutTypes_4 (.seq r_ingotref21_PutTypes_5 (.seq (.seq r_ingotref21_PutTypes_6 (.block 2 (.loop b_ingotref21_PutTypes_10))) (.seq (.seq r_ingotref21_PutTypes_11 (.cond (.t 52) r_ingotref21_PutTypes_12 .skip)) (.seq (.seq r_ingotref21_PutTypes_13 (.block 4 (.loop b_ingotref21_PutTypes_17))) (.seq (.seq r_ingotref21_PutTypes_18 (.block 6 (.loop b_ingotref21_PutTypes_24))) r_ingotref21_PutTypes_25))))))) r_ingotref21_PutTypes_26))
@[go_sem] theorem b_ingotref21_PutTypes_27_u : Gn X K s b_ingotref21_PutTypes_27 (.seq (.seq r_ingotref21_PutTypes_3 (.cond (.t 18) .skip (.exit 0))) (.seq (.block 1 (.seq r_ingotref21_PutTypes_4 (.seq r_ingotref21_PutTypes_5 (.seq (.seq r_ingotref21_PutTypes_6 (.block 2 (.loop b_ingotref21_PutTypes_10))) (.seq (.seq r_ingotref21_PutTypes_11 (.cond (.t 52) r_ingotref21_PutTypes_12 .skip)) (.seq (.seq r_ingotref21_PutTypes_13 (.block 4 (.loop b_ingotref21_PutTypes_17))) (.seq (.seq r_ingotref21_PutTypes_18 (.block 6 (.loop b_ingotref21_PutTypes_24))) r_ingotref21_PutTypes_25))))))) r_ingotref21_PutTypes_26)) := rfl
@[go_sem] def r_ingotref21_PutTypes_28_o : Ops := [
oo 116 (.mv (.t 0)), oo 4 (.asg (.t 116))]
def r_ingotref21_PutTypes_28 := rg r_ingotref21_PutTypes_28_o [4]
@[go_sem] theorem r_ingotref21_PutTypes_28_u : Gr X K s r_ingotref21_PutTypes_28 r_ingotref21_PutTypes_28_o [4] := go_region _ _
def c_ingotref21_PutTypes : ICode := (.seq r_ingotref21_PutTypes_0 (.seq r_ingotref21_PutTypes_1 (.seq (.seq r_ingotref21_PutTypes_2 (.block 0 (.loop b_ingotref21_PutTypes_27))) (.seq r_ingotref21_PutTypes_28 .ret))))
def i_ingotref21_PutTypes : IFunc := ⟨2, [.t 4], c_ingotref21_PutTypes⟩
def a_ingotref21_PutTypes : Advice := ⟨[28, 49, 55, 78, 112, 115], [(24, [4]), (4, [0, 5, 6]), (23, [0, 5, 6]), (19, [0, 5, 6, 7, 11]), (22, [0, 5, 6, 7, 11]), (21, [0, 5, 6, 7, 11, 12, 106]), (20, [0, 5, 6, 7, 11, 12]), (18, [0, 5, 6, 7, 11, 80]), (17, [0, 5, 6, 7, 11]), (15, [0, 5, 6, 7, 10]), (16, [0, 5, 6, 7, 10]), (14, [0, 5, 6, 7, 10, 64]), (13, [0, 5, 6, 7, 10]), (12, [0, 5, 6, 7]), (11, [0, 5, 6, 7, 8, 52]), (9, [0, 5, 6, 7, 8, 9]), (10, [0, 5, 6, 7, 8, 9]), (8, [0, 5, 6, 7, 8, 9, 36]), (7, [0, 5, 6, 7, 8, 9]), (6, [0, 5, 6, 7, 8]), (5, [0, 5, 6, 7]), (3, [0, 5, 6, 18]), (2, [0, 5, 6]), (1, [0, 5]), (0, [0, 3])], [], [], [(28, 0), (49, 0), (55, 0), (78, 0), (112, 0), (115, 0)], []⟩
/-! ingot/ingotlaw21.FootTypes -/
@[go_sem] def r_ingotlaw21_FootTypes_0_o : Ops := [
oo 2 (.box 6 (.t 0)), oo 4 (.asg (.c (.bool false)))]
def r_ingotlaw21_FootTypes_0 := rg r_ingotlaw21_FootTypes_0_o [1, 2]
@[go_sem] theorem r_ingotlaw21_FootTypes_0_u : Gr X K s r_ingotlaw21_FootTypes_0 r_ingotlaw21_FootTypes_0_o [1, 2] := go_region _ _
@[go_sem] def r_ingotlaw21_FootTypes_1_o : Ops := [
oo 5 (.call false n_ingotlaw21_known []), oo 6 (.un .not (.t 5))]
def r_ingotlaw21_FootTypes_1 := rg r_ingotlaw21_FootTypes_1_o [1, 2, 6]
@[go_sem] theorem r_ingotlaw21_FootTypes_1_u : Gr X K s r_ingotlaw21_FootTypes_1 r_ingotlaw21_FootTypes_1_o [1, 2, 6] := go_region _ _
@[go_sem] def r_ingotlaw21_FootTypes_2_o : Ops := [
oo 4 (.asg (.c (.bool false)))]
def r_ingotlaw21_FootTypes_2 := rg r_ingotlaw21_FootTypes_2_o [4]
@[go_sem] theorem r_ingotlaw21_FootTypes_2_u : Gr X K s r_ingotlaw21_FootTypes_2 r_ingotlaw21_FootTypes_2_o [4] := go_region _ _
@[go_sem] def r_ingotlaw21_FootTypes_3_o : Ops := [
oo 7 (.load (some 6) (.t 2)), oo 8 (.call false n_ingotlaw13_Few [(.t 7)]), oo 9 (.un .not (.t 8)), oo 10 (.mv (.t 9)), og 11 10 false (.load (some 6) (.t 2)), og 12 10 false (.call false n_ingotref13_Check [(.t 11)]), og 13 10 false (.bin .neq (.t 12) (ci 0)), oo 14 (.pick (.t 10) (.c (.bool true)) (.t 13)), oo 15 (.mv (.t 14)), og 16 15 false (.mv (.t 1)), og 17 15 false (.len false (.t 16)), og 18 15 false (.bin .gtr (.t 17) (ci 500)), oo 19 (.pick (.t 15) (.c (.bool true)) (.t 18))]
def r_ingotlaw21_FootTypes_3 := rg r_ingotlaw21_FootTypes_3_o [1, 2, 19]
@[go_sem] theorem r_ingotlaw21_FootTypes_3_u : Gr X K s r_ingotlaw21_FootTypes_3 r_ingotlaw21_FootTypes_3_o [1, 2, 19] := go_region _ _
@[go_sem] def r_ingotlaw21_FootTypes_4_o : Ops := [
oo 4 (.asg (.c (.bool true)))]
def r_ingotlaw21_FootTypes_4 := rg r_ingotlaw21_FootTypes_4_o [4]
@[go_sem] theorem r_ingotlaw21_FootTypes_4_u : Gr X K s r_ingotlaw21_FootTypes_4 r_ingotlaw21_FootTypes_4_o [4] := go_region _ _
@[go_sem] def r_ingotlaw21_FootTypes_5_o : Ops := [
oo 20 (.lit true 1 0 (.int .u8 0) []), oo 21 (.mv (.t 1)), oo 22 (.append 1 1 (.t 20) (.t 21)), oo 23 (.load (some 6) (.t 2)), oo 24 (.call false n_foot_PutTypes [(.t 22), (.t 23)]), oo 25 (.b2s (.t 24)), oo 26 (.lit true 1 0 (.int .u8 0) []), oo 27 (.mv (.t 1)), oo 28 (.append 1 1 (.t 26) (.t 27)), oo 29 (.load (some 6) (.t 2)), oo 30 (.callg false n_ingotref21_PutTypes [(.t 28), (.t 29)] 0), oo 31 (.b2s (.t 30)), oo 32 (.bin .eql (.t 25) (.t 31)), oo 4 (.asg (.t 32))]
def r_ingotlaw21_FootTypes_5_n : List (Nat × Nat) := [(0, 1), (0, 3), (1, 3), (2, 3), (0, 6), (1, 6), (2, 6), (3, 6), (4, 6), (5, 6), (0, 7), (1, 7), (2, 7), (3, 7), (4, 7), (5, 7), (6, 7), (5, 8), (0, 9), (1, 9), (2, 9), (3, 9), (4, 9), (5, 9), (6, 9), (7, 9), (8, 9), (5, 10), (5, 11)]
def r_ingotlaw21_FootTypes_5 : ICode := .region r_ingotlaw21_FootTypes_5_o r_ingotlaw21_FootTypes_5_n [4]
@[go_sem] theorem r_ingotlaw21_FootTypes_5_u : go X (.c r_ingotlaw21_FootTypes_5 :: K) s = goRU X [] r_ingotlaw21_FootTypes_5_n r_ingotlaw21_FootTypes_5_o [4] K s := go_regionU' _ _ _ _
def c_ingotlaw21_FootTypes : ICode := (.seq r_ingotlaw21_FootTypes_0 (.seq r_ingotlaw21_FootTypes_1 (.cond (.t 6) (.seq r_ingotlaw21_FootTypes_2 .ret) (.seq r_ingotlaw21_FootTypes_3 (.cond (.t 19) (.seq r_ingotlaw21_FootTypes_4 .ret) (.seq r_ingotlaw21_FootTypes_5 .ret))))))
def i_ingotlaw21_FootTypes : IFunc := ⟨2, [.t 4], c_ingotlaw21_FootTypes⟩
def a_ingotlaw21_FootTypes : Advice := ⟨[20, 26, 28], [(5, [4]), (4, [4]), (3, [1, 2, 19]), (2, [4]), (1, [1, 2, 6]), (0, [1, 2])], [], [], [(30, 0)], []⟩
/-! ingot/ingotref3.PutBytes -/
@[go_sem] def r_ingotref3_PutBytes_0_o : Ops := [
oo 6 (.asg (.c .nilS))]
def r_ingotref3_PutBytes_0 := rg r_ingotref3_PutBytes_0_o [0, 1, 2]
@[go_sem] theorem r_ingotref3_PutBytes_0_u : Gr X K s r_ingotref3_PutBytes_0 r_ingotref3_PutBytes_0_o [0, 1, 2] := go_region _ _
@[go_sem] def r_ingotref3_PutBytes_1_o : Ops := [
oo 7 (.mv (.t 1)), oo 8 (.call false n_ingotref3_may [(.t 7)]), oo 9 (.un .not (.t 8))]
def r_ingotref3_PutBytes_1 := rg r_ingotref3_PutBytes_1_o [0, 1, 2, 9]
@[go_sem] theorem r_ingotref3_PutBytes_1_u : Gr X K s r_ingotref3_PutBytes_1 r_ingotref3_PutBytes_1_o [0, 1, 2, 9] := go_region _ _
@[go_sem] def r_ingotref3_PutBytes_2_o : Ops := [
oo 10 (.mv (.t 0)), oo 6 (.asg (.t 10))]
def r_ingotref3_PutBytes_2 := rg r_ingotref3_PutBytes_2_o [6]
@[go_sem] theorem r_ingotref3_PutBytes_2_u : Gr X K s r_ingotref3_PutBytes_2 r_ingotref3_PutBytes_2_o [6] := go_region _ _
@[go_sem] def r_ingotref3_PutBytes_3_o : Ops := [
oo 11 (.mv (.t 0)), oo 12 (.mv (.t 1)), oo 13 (.cvInt .u64 (.t 12)), oo 14 (.bin .shl (.t 13) (.c (.int .u64 3))), oo 15 (.bin .or (.t 14) (.c (.int .u64 2))), oo 16 (.callg true n_ingotref1_PutVar [(.t 11), (.t 15)] 0), oo 17 (.mv (.t 2)), oo 18 (.len false (.t 17)), oo 19 (.cvInt .u64 (.t 18)), oo 20 (.callg true n_ingotref1_PutVar [(.t 16), (.t 19)] 0), oo 21 (.mv (.t 2)), oo 22 (.append 1 1 (.t 20) (.t 21)), oo 6 (.asg (.t 22))]
def r_ingotref3_PutBytes_3 := rg r_ingotref3_PutBytes_3_o [6]
@[go_sem] theorem r_ingotref3_PutBytes_3_u : Gr X K s r_ingotref3_PutBytes_3 r_ingotref3_PutBytes_3_o [6] := go_region _ _
def c_ingotref3_PutBytes : ICode := (.seq r_ingotref3_PutBytes_0 (.seq r_ingotref3_PutBytes_1 (.cond (.t 9) (.seq r_ingotref3_PutBytes_2 .ret) (.seq r_ingotref3_PutBytes_3 .ret))))
def i_ingotref3_PutBytes : IFunc := ⟨3, [.t 6], c_ingotref3_PutBytes⟩
def a_ingotref3_PutBytes : Advice := ⟨[16, 20], [(3, [6]), (2, [6]), (1, [0, 1, 2, 9]), (0, [0, 1, 2])], [], [], [(16, 0), (20, 0)], []⟩
/-! ingot/ingotref1.PutVar -/
@[go_sem] def r_ingotref1_PutVar_0_o : Ops := [
oo 4 (.asg (.c .nilS))]
def r_ingotref1_PutVar_0 := rg r_ingotref1_PutVar_0_o [0, 1]
@[go_sem] theorem r_ingotref1_PutVar_0_u : Gr X K s r_ingotref1_PutVar_0 r_ingotref1_PutVar_0_o [0, 1] := go_region _ _
@[go_sem] def r_ingotref1_PutVar_1_o : Ops := [
oo 5 (.mv (.t 1)), oo 6 (.bin .geq (.t 5) (.c (.int .u64 128)))]
def r_ingotref1_PutVar_1 := rg r_ingotref1_PutVar_1_o [0, 1, 6]
@[go_sem] theorem r_ingotref1_PutVar_1_u : Gr X K s r_ingotref1_PutVar_1 r_ingotref1_PutVar_1_o [0, 1, 6] := go_region _ _
@[go_sem] def r_ingotref1_PutVar_2_o : Ops := [
oo 7 (.mv (.t 0)), oo 8 (.mv (.t 1)), oo 9 (.bin .and (.t 8) (.c (.int .u64 127))), oo 10 (.bin .or (.t 9) (.c (.int .u64 128))), oo 11 (.cvInt .u8 (.t 10)), oo 12 (.lit false 1 1 (.int .u8 0) [(0, (.t 11))]), oo 13 (.append 1 1 (.t 7) (.t 12)), oo 0 (.asg (.t 13))]
def r_ingotref1_PutVar_2 := rg r_ingotref1_PutVar_2_o [0, 1]
@[go_sem] theorem r_ingotref1_PutVar_2_u : Gr X K s r_ingotref1_PutVar_2 r_ingotref1_PutVar_2_o [0, 1] := go_region _ _
@[go_sem] def r_ingotref1_PutVar_3_o : Ops := [
oo 14 (.mv (.t 1)), oo 15 (.bin .shr (.t 14) (.c (.int .u64 7))), oo 1 (.asg (.t 15))]
def r_ingotref1_PutVar_3 := rg r_ingotref1_PutVar_3_o [0, 1]
@[go_sem] theorem r_ingotref1_PutVar_3_u : Gr X K s r_ingotref1_PutVar_3 r_ingotref1_PutVar_3_o [0, 1] := go_region _ _
def b_ingotref1_PutVar_4 : ICode := (.seq (.seq r_ingotref1_PutVar_1 (.cond (.t 6) .skip (.exit 0))) (.block 1 (.seq r_ingotref1_PutVar_2 r_ingotref1_PutVar_3)))
@[go_sem] theorem b_ingotref1_PutVar_4_u : Gn X K s b_ingotref1_PutVar_4 (.seq (.seq r_ingotref1_PutVar_1 (.cond (.t 6) .skip (.exit 0))) (.block 1 (.seq r_ingotref1_PutVar_2 r_ingotref1_PutVar_3))) := rfl
@[go_sem] def r_ingotref1_PutVar_5_o : Ops := [
oo 16 (.mv (.t 0)), oo 17 (.mv (.t 1)), oo 18 (.cvInt .u8 (.t 17)), oo 19 (.lit false 1 1 (.int .u8 0) [(0, (.t 18))]), oo 20 (.append 1 1 (.t 16) (.t 19)), oo 4 (.asg (.t 20))]
def r_ingotref1_PutVar_5 := rg r_ingotref1_PutVar_5_o [4]
@[go_sem] theorem r_ingotref1_PutVar_5_u : Gr X K s r_ingotref1_PutVar_5 r_ingotref1_PutVar_5_o [4] := go_region _ _
def c_ingotref1_PutVar : ICode := (.seq r_ingotref1_PutVar_0 (.seq (.block 0 (.loop b_ingotref1_PutVar_4)) (.seq r_ingotref1_PutVar_5 .ret)))
def i_ingotref1_PutVar : IFunc := ⟨2, [.t 4], c_ingotref1_PutVar⟩
def a_ingotref1_PutVar : Advice := ⟨[13], [(4, [4]), (3, [0, 1]), (2, [0, 1]), (1, [0, 1, 6]), (0, [0, 1])], [], [], [], []⟩
/-! ingot/ingotref3.may -/
@[go_sem] def r_ingotref3_may_0_o : Ops := [
oo 2 (.asg (.c (.bool false)))]
def r_ingotref3_may_0 := rg r_ingotref3_may_0_o [0]
@[go_sem] theorem r_ingotref3_may_0_u : Gr X K s r_ingotref3_may_0 r_ingotref3_may_0_o [0] := go_region _ _
@[go_sem] def r_ingotref3_may_1_o : Ops := [
oo 3 (.mv (.t 0)), oo 4 (.bin .geq (.t 3) (ci 1)), oo 5 (.mv (.t 4)), og 6 5 true (.mv (.t 0)), og 7 5 true (.bin .leq (.t 6) (ci 536870911)), oo 8 (.pick (.t 5) (.t 7) (.c (.bool false))), oo 2 (.asg (.t 8))]
def r_ingotref3_may_1 := rg r_ingotref3_may_1_o [2]
@[go_sem] theorem r_ingotref3_may_1_u : Gr X K s r_ingotref3_may_1 r_ingotref3_may_1_o [2] := go_region _ _
def c_ingotref3_may : ICode := (.seq r_ingotref3_may_0 (.seq r_ingotref3_may_1 .ret))
def i_ingotref3_may : IFunc := ⟨1, [.t 2], c_ingotref3_may⟩
def a_ingotref3_may : Advice := ⟨[], [(1, [2]), (0, [0])], [], [], [], []⟩
/-! ingot/ingotref3.PutUint -/
@[go_sem] def r_ingotref3_PutUint_0_o : Ops := [
oo 6 (.asg (.c .nilS))]
def r_ingotref3_PutUint_0 := rg r_ingotref3_PutUint_0_o [0, 1, 2]
@[go_sem] theorem r_ingotref3_PutUint_0_u : Gr X K s r_ingotref3_PutUint_0 r_ingotref3_PutUint_0_o [0, 1, 2] := go_region _ _
@[go_sem] def r_ingotref3_PutUint_1_o : Ops := [
oo 7 (.mv (.t 1)), oo 8 (.call false n_ingotref3_may [(.t 7)]), oo 9 (.un .not (.t 8))]
def r_ingotref3_PutUint_1 := rg r_ingotref3_PutUint_1_o [0, 1, 2, 9]
@[go_sem] theorem r_ingotref3_PutUint_1_u : Gr X K s r_ingotref3_PutUint_1 r_ingotref3_PutUint_1_o [0, 1, 2, 9] := go_region _ _
@[go_sem] def r_ingotref3_PutUint_2_o : Ops := [
oo 10 (.mv (.t 0)), oo 6 (.asg (.t 10))]
def r_ingotref3_PutUint_2 := rg r_ingotref3_PutUint_2_o [6]
@[go_sem] theorem r_ingotref3_PutUint_2_u : Gr X K s r_ingotref3_PutUint_2 r_ingotref3_PutUint_2_o [6] := go_region _ _
@[go_sem] def r_ingotref3_PutUint_3_o : Ops := [
oo 11 (.mv (.t 0)), oo 12 (.mv (.t 1)), oo 13 (.cvInt .u64 (.t 12)), oo 14 (.bin .shl (.t 13) (.c (.int .u64 3))), oo 15 (.callg true n_ingotref1_PutVar [(.t 11), (.t 14)] 0), oo 16 (.mv (.t 2)), oo 17 (.callg true n_ingotref1_PutVar [(.t 15), (.t 16)] 0), oo 6 (.asg (.t 17))]
def r_ingotref3_PutUint_3 := rg r_ingotref3_PutUint_3_o [6]
@[go_sem] theorem r_ingotref3_PutUint_3_u : Gr X K s r_ingotref3_PutUint_3 r_ingotref3_PutUint_3_o [6] := go_region _ _
def c_ingotref3_PutUint : ICode := (.seq r_ingotref3_PutUint_0 (.seq r_ingotref3_PutUint_1 (.cond (.t 9) (.seq r_ingotref3_PutUint_2 .ret) (.seq r_ingotref3_PutUint_3 .ret))))
def i_ingotref3_PutUint : IFunc := ⟨3, [.t 6], c_ingotref3_PutUint⟩
def a_ingotref3_PutUint : Advice := ⟨[15, 17], [(3, [6]), (2, [6]), (1, [0, 1, 2, 9]), (0, [0, 1, 2])], [], [], [(15, 0), (17, 0)], []⟩
/-! ingot/ingotref13.own -/
@[go_sem] def r_ingotref13_own_0_o : Ops := [
oo 1 (.box 6 (.t 0)), oo 2 (.asg (ci 0))]
def r_ingotref13_own_0 := rg r_ingotref13_own_0_o [1]
@[go_sem] theorem r_ingotref13_own_0_u : Gr X K s r_ingotref13_own_0 r_ingotref13_own_0_o [1] := go_region _ _
@[go_sem] def r_ingotref13_own_1_o : Ops := [
oo 8 (.fieldA 0 (.t 1)), oo 9 (.load none (.t 8)), oo 10 (.bin .eql (.t 9) (ci 5)), oo 11 (.mv (.t 10)), og 12 11 false (.fieldA 0 (.t 1)), og 13 11 false (.load none (.t 12)), og 14 11 false (.bin .eql (.t 13) (ci 6)), oo 15 (.pick (.t 11) (.c (.bool true)) (.t 14))]
def r_ingotref13_own_1 := rg r_ingotref13_own_1_o [1, 15]
@[go_sem] theorem r_ingotref13_own_1_u : Gr X K s r_ingotref13_own_1 r_ingotref13_own_1_o [1, 15] := go_region _ _
@[go_sem] def r_ingotref13_own_2_o : Ops := [
oo 2 (.asg (ci 5))]
def r_ingotref13_own_2 := rg r_ingotref13_own_2_o [2]
@[go_sem] theorem r_ingotref13_own_2_u : Gr X K s r_ingotref13_own_2 r_ingotref13_own_2_o [2] := go_region _ _
@[go_sem] def r_ingotref13_own_3_o : Ops := [
oo 16 (.fieldA 0 (.t 1)), oo 17 (.load none (.t 16)), oo 18 (.bin .lss (.t 17) (ci 0)), oo 19 (.mv (.t 18)), og 20 19 false (.fieldA 0 (.t 1)), og 21 19 false (.load none (.t 20)), og 22 19 false (.bin .gtr (.t 21) (ci 17)), oo 23 (.pick (.t 19) (.c (.bool true)) (.t 22))]
def r_ingotref13_own_3 := rg r_ingotref13_own_3_o [1, 23]
@[go_sem] theorem r_ingotref13_own_3_u : Gr X K s r_ingotref13_own_3 r_ingotref13_own_3_o [1, 23] := go_region _ _
@[go_sem] def r_ingotref13_own_4_o : Ops := [
oo 2 (.asg (ci 1))]
def r_ingotref13_own_4 := rg r_ingotref13_own_4_o [2]
@[go_sem] theorem r_ingotref13_own_4_u : Gr X K s r_ingotref13_own_4 r_ingotref13_own_4_o [2] := go_region _ _
@[go_sem] def r_ingotref13_own_5_o : Ops := [
oo 24 (.fieldA 2 (.t 1)), oo 25 (.load none (.t 24)), oo 26 (.len false (.t 25)), oo 3 (.asg (.t 26))]
def r_ingotref13_own_5 := rg r_ingotref13_own_5_o [1, 3]
@[go_sem] theorem r_ingotref13_own_5_u : Gr X K s r_ingotref13_own_5 r_ingotref13_own_5_o [1, 3] := go_region _ _
@[go_sem] def r_ingotref13_own_6_o : Ops := [
oo 27 (.mv (.t 3)), oo 28 (.bin .eql (.t 27) (ci 0)), oo 4 (.asg (.t 28))]
def r_ingotref13_own_6 := rg r_ingotref13_own_6_o [1, 3, 4]
@[go_sem] theorem r_ingotref13_own_6_u : Gr X K s r_ingotref13_own_6 r_ingotref13_own_6_o [1, 3, 4] := go_region _ _
@[go_sem] def r_ingotref13_own_7_o : Ops := [
oo 29 (.fieldA 0 (.t 1)), oo 30 (.load none (.t 29))]
def r_ingotref13_own_7 := rg r_ingotref13_own_7_o [1, 3, 4, 30]
@[go_sem] theorem r_ingotref13_own_7_u : Gr X K s r_ingotref13_own_7 r_ingotref13_own_7_o [1, 3, 4, 30] := go_region _ _
@[go_sem] def r_ingotref13_own_8_o : Ops := [
oo 32 (.bin .eql (.t 30) (ci 10)), oo 31 (.asg (.t 32))]
def r_ingotref13_own_8 := rg r_ingotref13_own_8_o [1, 3, 4, 30, 31]
@[go_sem] theorem r_ingotref13_own_8_u : Gr X K s r_ingotref13_own_8 r_ingotref13_own_8_o [1, 3, 4, 30, 31] := go_region _ _
@[go_sem] def r_ingotref13_own_9_o : Ops := [
oo 33 (.mv (.t 3)), oo 34 (.bin .eql (.t 33) (ci 1)), oo 4 (.asg (.t 34))]
def r_ingotref13_own_9 := rg r_ingotref13_own_9_o [1, 4]
@[go_sem] theorem r_ingotref13_own_9_u : Gr X K s r_ingotref13_own_9 r_ingotref13_own_9_o [1, 4] := go_region _ _
@[go_sem] def r_ingotref13_own_10_o : Ops := [
oo 36 (.bin .eql (.t 30) (ci 11)), oo 35 (.asg (.t 36))]
def r_ingotref13_own_10 := rg r_ingotref13_own_10_o [1, 3, 4, 30, 35]
@[go_sem] theorem r_ingotref13_own_10_u : Gr X K s r_ingotref13_own_10 r_ingotref13_own_10_o [1, 3, 4, 30, 35] := go_region _ _
@[go_sem] def r_ingotref13_own_11_o : Ops := [
oo 37 (.mv (.t 3)), oo 38 (.bin .eql (.t 37) (ci 2)), oo 4 (.asg (.t 38))]
def r_ingotref13_own_11 := rg r_ingotref13_own_11_o [1, 4]
@[go_sem] theorem r_ingotref13_own_11_u : Gr X K s r_ingotref13_own_11 r_ingotref13_own_11_o [1, 4] := go_region _ _
@[go_sem] def r_ingotref13_own_12_o : Ops := [
oo 40 (.bin .eql (.t 30) (ci 12)), oo 39 (.asg (.t 40))]
def r_ingotref13_own_12 := rg r_ingotref13_own_12_o [1, 3, 4, 30, 39]
@[go_sem] theorem r_ingotref13_own_12_u : Gr X K s r_ingotref13_own_12 r_ingotref13_own_12_o [1, 3, 4, 30, 39] := go_region _ _
@[go_sem] def r_ingotref13_own_13_o : Ops := [
oo 41 (.mv (.t 3)), oo 42 (.fieldA 1 (.t 1)), oo 43 (.load none (.t 42)), oo 44 (.len false (.t 43)), oo 45 (.bin .eql (.t 41) (.t 44)), oo 4 (.asg (.t 45))]
def r_ingotref13_own_13 := rg r_ingotref13_own_13_o [1, 4]
@[go_sem] theorem r_ingotref13_own_13_u : Gr X K s r_ingotref13_own_13 r_ingotref13_own_13_o [1, 4] := go_region _ _
@[go_sem] def r_ingotref13_own_14_o : Ops := [
oo 47 (.bin .eql (.t 30) (ci 13)), oo 46 (.asg (.t 47))]
def r_ingotref13_own_14 := rg r_ingotref13_own_14_o [1, 3, 4, 46]
@[go_sem] theorem r_ingotref13_own_14_u : Gr X K s r_ingotref13_own_14 r_ingotref13_own_14_o [1, 3, 4, 46] := go_region _ _
@[go_sem] def r_ingotref13_own_15_o : Ops := [
oo 48 (.mv (.t 3)), oo 49 (.bin .geq (.t 48) (ci 1)), oo 50 (.mv (.t 49)), og 51 50 true (.mv (.t 3)), og 52 50 true (.bin .leq (.t 51) (ci 255)), oo 53 (.pick (.t 50) (.t 52) (.c (.bool false))), oo 4 (.asg (.t 53))]
def r_ingotref13_own_15 := rg r_ingotref13_own_15_o [1, 4]
@[go_sem] theorem r_ingotref13_own_15_u : Gr X K s r_ingotref13_own_15 r_ingotref13_own_15_o [1, 4] := go_region _ _
@[go_sem] def r_ingotref13_own_16_o : Ops := [
oo 54 (.mv (.t 4)), oo 55 (.un .not (.t 54)), oo 56 (.mv (.t 55)), og 57 56 false (.fieldA 0 (.t 1)), og 58 56 false (.load none (.t 57)), og 59 56 false (.bin .neq (.t 58) (ci 12)), og 60 56 false (.mv (.t 59)), og 61 60 true (.fieldA 1 (.t 1)), og 62 60 true (.load none (.t 61)), og 63 60 true (.len false (.t 62)), og 64 60 true (.bin .gtr (.t 63) (ci 0)), og 65 56 false (.pick (.t 60) (.t 64) (.c (.bool false))), oo 66 (.pick (.t 56) (.c (.bool true)) (.t 65))]
def r_ingotref13_own_16 := rg r_ingotref13_own_16_o [1, 66]
@[go_sem] theorem r_ingotref13_own_16_u : Gr X K s r_ingotref13_own_16 r_ingotref13_own_16_o [1, 66] := go_region _ _
@[go_sem] def r_ingotref13_own_17_o : Ops := [
oo 2 (.asg (ci 1))]
def r_ingotref13_own_17 := rg r_ingotref13_own_17_o [2]
@[go_sem] theorem r_ingotref13_own_17_u : Gr X K s r_ingotref13_own_17 r_ingotref13_own_17_o [2] := go_region _ _
@[go_sem] def r_ingotref13_own_18_o : Ops := [
oo 5 (.asg (ci 0))]
def r_ingotref13_own_18 := rg r_ingotref13_own_18_o [1, 5]
@[go_sem] theorem r_ingotref13_own_18_u : Gr X K s r_ingotref13_own_18 r_ingotref13_own_18_o [1, 5] := go_region _ _
@[go_sem] def r_ingotref13_own_19_o : Ops := [
oo 67 (.mv (.t 5)), oo 68 (.fieldA 1 (.t 1)), oo 69 (.load none (.t 68)), oo 70 (.len false (.t 69)), oo 71 (.bin .lss (.t 67) (.t 70))]
def r_ingotref13_own_19 := rg r_ingotref13_own_19_o [1, 5, 71]
@[go_sem] theorem r_ingotref13_own_19_u : Gr X K s r_ingotref13_own_19 r_ingotref13_own_19_o [1, 5, 71] := go_region _ _
@[go_sem] def r_ingotref13_own_20_o : Ops := [
oo 74 (.fieldA 1 (.t 1)), oo 75 (.load none (.t 74)), oo 76 (.mv (.t 5)), oo 77 (.idxA 1 (.t 75) (.t 76)), oo 78 (.load none (.t 77)), oo 79 (.bin .eql (.t 78) (.c (.str []))), oo 80 (.mv (.t 79)), og 81 80 false (.fieldA 1 (.t 1)), og 82 80 false (.load none (.t 81)), og 83 80 false (.mv (.t 5)), og 84 80 false (.idxA 1 (.t 82) (.t 83)), og 85 80 false (.load none (.t 84)), og 86 80 false (.len true (.t 85)), og 87 80 false (.bin .gtr (.t 86) (ci 100)), oo 88 (.pick (.t 80) (.c (.bool true)) (.t 87))]
def r_ingotref13_own_20 := rg r_ingotref13_own_20_o [1, 5, 88]
@[go_sem] theorem r_ingotref13_own_20_u : Gr X K s r_ingotref13_own_20 r_ingotref13_own_20_o [1, 5, 88] := go_region _ _
@[go_sem] def r_ingotref13_own_21_o : Ops := [
oo 2 (.asg (ci 1))]
def r_ingotref13_own_21 := rg r_ingotref13_own_21_o [2]
@[go_sem] theorem r_ingotref13_own_21_u : Gr X K s r_ingotref13_own_21 r_ingotref13_own_21_o [2] := go_region _ _
@[go_sem] def r_ingotref13_own_22_o : Ops := [
oo 6 (.asg (ci 0))]
def r_ingotref13_own_22 := rg r_ingotref13_own_22_o [1, 5, 6]
@[go_sem] theorem r_ingotref13_own_22_u : Gr X K s r_ingotref13_own_22 r_ingotref13_own_22_o [1, 5, 6] := go_region _ _
@[go_sem] def r_ingotref13_own_23_o : Ops := [
oo 89 (.mv (.t 6)), oo 90 (.mv (.t 5)), oo 91 (.bin .lss (.t 89) (.t 90))]
def r_ingotref13_own_23 := rg r_ingotref13_own_23_o [1, 5, 6, 91]
@[go_sem] theorem r_ingotref13_own_23_u : Gr X K s r_ingotref13_own_23 r_ingotref13_own_23_o [1, 5, 6, 91] := go_region _ _
@[go_sem] def r_ingotref13_own_24_o : Ops := [
oo 94 (.fieldA 1 (.t 1)), oo 95 (.load none (.t 94)), oo 96 (.mv (.t 6)), oo 97 (.idxA 1 (.t 95) (.t 96)), oo 98 (.load none (.t 97)), oo 99 (.fieldA 1 (.t 1)), oo 100 (.load none (.t 99)), oo 101 (.mv (.t 5)), oo 102 (.idxA 1 (.t 100) (.t 101)), oo 103 (.load none (.t 102)), oo 104 (.bin .eql (.t 98) (.t 103))]
def r_ingotref13_own_24_n : List (Nat × Nat) := [(0, 2), (1, 2), (0, 5), (1, 5), (2, 5), (3, 5), (4, 5), (0, 6), (1, 6), (2, 6), (3, 6), (4, 6), (0, 7), (1, 7), (2, 7), (3, 7), (4, 7), (5, 7), (6, 7), (0, 8), (1, 8), (2, 8), (3, 8), (4, 8), (0, 9), (1, 9), (2, 9), (3, 9), (4, 9)]
def r_ingotref13_own_24 : ICode := .region r_ingotref13_own_24_o r_ingotref13_own_24_n [1, 5, 6, 104]
@[go_sem] theorem r_ingotref13_own_24_u : go X (.c r_ingotref13_own_24 :: K) s = goRU X [] r_ingotref13_own_24_n r_ingotref13_own_24_o [1, 5, 6, 104] K s := go_regionU' _ _ _ _
@[go_sem] def r_ingotref13_own_25_o : Ops := [
oo 2 (.asg (ci 1))]
def r_ingotref13_own_25 := rg r_ingotref13_own_25_o [2]
@[go_sem] theorem r_ingotref13_own_25_u : Gr X K s r_ingotref13_own_25 r_ingotref13_own_25_o [2] := go_region _ _
@[go_sem] def r_ingotref13_own_26_o : Ops := [
oo 92 (.mv (.t 6)), oo 93 (.bin .add (.t 92) (ci 1)), oo 6 (.asg (.t 93))]
def r_ingotref13_own_26 := rg r_ingotref13_own_26_o [1, 5, 6]
@[go_sem] theorem r_ingotref13_own_26_u : Gr X K s r_ingotref13_own_26 r_ingotref13_own_26_o [1, 5, 6] := go_region _ _
def b_ingotref13_own_27 : ICode := (.seq (.seq r_ingotref13_own_23 (.cond (.t 91) .skip (.exit 3))) (.seq (.block 4 (.seq r_ingotref13_own_24 (.cond (.t 104) (.seq r_ingotref13_own_25 .ret) .skip))) r_ingotref13_own_26))
@[go_sem] theorem b_ingotref13_own_27_u : Gn X K s b_ingotref13_own_27 (.seq (.seq r_ingotref13_own_23 (.cond (.t 91) .skip (.exit 3))) (.seq (.block 4 (.seq r_ingotref13_own_24 (.cond (.t 104) (.seq r_ingotref13_own_25 .ret) .skip))) r_ingotref13_own_26)) := rfl
@[go_sem] def r_ingotref13_own_28_o : Ops := [
oo 72 (.mv (.t 5)), oo 73 (.bin .add (.t 72) (ci 1)), oo 5 (.asg (.t 73))]
def r_ingotref13_own_28 := rg r_ingotref13_own_28_o [1, 5]
@[go_sem] theorem r_ingotref13_own_28_u : Gr X K s r_ingotref13_own_28 r_ingotref13_own_28_o [1, 5] := go_region _ _
def b_ingotref13_own_29 : ICode := (.seq (.seq r_ingotref13_own_19 (.cond (.t 71) .skip (.exit 1))) (.seq (.block 2 (.seq (.seq r_ingotref13_own_20 (.cond (.t 88) (.seq r_ingotref13_own_21 .ret) .skip)) (.seq r_ingotref13_own_22 (.block 3 (.loop b_ingotref13_own_27))))) r_ingotref13_own_28))
@[go_sem] theorem b_ingotref13_own_29_u : Gn X K s b_ingotref13_own_29 (.seq (.seq r_ingotref13_own_19 (.cond (.t 71) .skip (.exit 1))) (.seq (.block 2 (.seq (.seq r_ingotref13_own_20 (.cond (.t 88) (.seq r_ingotref13_own_21 .ret) .skip)) (.seq r_ingotref13_own_22 (.block 3 (.loop b_ingotref13_own_27))))) r_ingotref13_own_28)) := rfl
@[go_sem] def r_ingotref13_own_30_o : Ops := [
oo 105 (.fieldA 0 (.t 1)), oo 106 (.load none (.t 105)), oo 107 (.bin .eql (.t 106) (ci 16)), oo 108 (.mv (.t 107)), og 109 108 false (.fieldA 0 (.t 1)), og 110 108 false (.load none (.t 109)), og 111 108 false (.bin .eql (.t 110) (ci 17)), oo 112 (.pick (.t 108) (.c (.bool true)) (.t 111)), oo 7 (.asg (.t 112))]
def r_ingotref13_own_30 := rg r_ingotref13_own_30_o [1, 7]
@[go_sem] theorem r_ingotref13_own_30_u : Gr X K s r_ingotref13_own_30 r_ingotref13_own_30_o [1, 7] := go_region _ _
@[go_sem] def r_ingotref13_own_31_o : Ops := [
oo 113 (.mv (.t 7)), oo 114 (.mv (.t 113)), og 115 114 true (.fieldA 3 (.t 1)), og 116 114 true (.load none (.t 115)), og 117 114 true (.bin .lss (.t 116) (ci 1)), og 118 114 true (.mv (.t 117)), og 119 118 false (.fieldA 3 (.t 1)), og 120 118 false (.load none (.t 119)), og 121 118 false (.bin .gtr (.t 120) (ci 4096)), og 122 114 true (.pick (.t 118) (.c (.bool true)) (.t 121)), oo 123 (.pick (.t 114) (.t 122) (.c (.bool false))), oo 124 (.mv (.t 123)), og 125 124 false (.mv (.t 7)), og 126 124 false (.un .not (.t 125)), og 127 124 false (.mv (.t 126)), og 128 127 true (.fieldA 3 (.t 1)), og 129 127 true (.load none (.t 128)), og 130 127 true (.bin .neq (.t 129) (ci 0)), og 131 124 false (.pick (.t 127) (.t 130) (.c (.bool false))), oo 132 (.pick (.t 124) (.c (.bool true)) (.t 131))]
def r_ingotref13_own_31 := rg r_ingotref13_own_31_o [1, 132]
@[go_sem] theorem r_ingotref13_own_31_u : Gr X K s r_ingotref13_own_31 r_ingotref13_own_31_o [1, 132] := go_region _ _
@[go_sem] def r_ingotref13_own_32_o : Ops := [
oo 2 (.asg (ci 1))]
def r_ingotref13_own_32 := rg r_ingotref13_own_32_o [2]
@[go_sem] theorem r_ingotref13_own_32_u : Gr X K s r_ingotref13_own_32 r_ingotref13_own_32_o [2] := go_region _ _
@[go_sem] def r_ingotref13_own_33_o : Ops := [
oo 133 (.fieldA 0 (.t 1)), oo 134 (.load none (.t 133)), oo 135 (.bin .eql (.t 134) (ci 14))]
def r_ingotref13_own_33 := rg r_ingotref13_own_33_o [1, 135]
@[go_sem] theorem r_ingotref13_own_33_u : Gr X K s r_ingotref13_own_33 r_ingotref13_own_33_o [1, 135] := go_region _ _
@[go_sem] def r_ingotref13_own_34_o : Ops := [
oo 136 (.fieldA 4 (.t 1)), oo 137 (.load none (.t 136)), oo 138 (.bin .lss (.t 137) (ci 1)), oo 139 (.mv (.t 138)), og 140 139 false (.fieldA 4 (.t 1)), og 141 139 false (.load none (.t 140)), og 142 139 false (.bin .gtr (.t 141) (ci 18)), oo 143 (.pick (.t 139) (.c (.bool true)) (.t 142)), oo 144 (.mv (.t 143)), og 145 144 false (.fieldA 5 (.t 1)), og 146 144 false (.load none (.t 145)), og 147 144 false (.bin .lss (.t 146) (ci 0)), oo 148 (.pick (.t 144) (.c (.bool true)) (.t 147)), oo 149 (.mv (.t 148)), og 150 149 false (.fieldA 5 (.t 1)), og 151 149 false (.load none (.t 150)), og 152 149 false (.fieldA 4 (.t 1)), og 153 149 false (.load none (.t 152)), og 154 149 false (.bin .gtr (.t 151) (.t 153)), oo 155 (.pick (.t 149) (.c (.bool true)) (.t 154))]
def r_ingotref13_own_34 := rg r_ingotref13_own_34_o [155]
@[go_sem] theorem r_ingotref13_own_34_u : Gr X K s r_ingotref13_own_34 r_ingotref13_own_34_o [155] := go_region _ _
@[go_sem] def r_ingotref13_own_35_o : Ops := [
oo 2 (.asg (ci 1))]
def r_ingotref13_own_35 := rg r_ingotref13_own_35_o [2]
@[go_sem] theorem r_ingotref13_own_35_u : Gr X K s r_ingotref13_own_35 r_ingotref13_own_35_o [2] := go_region _ _
@[go_sem] def r_ingotref13_own_36_o : Ops := [
oo 156 (.fieldA 4 (.t 1)), oo 157 (.load none (.t 156)), oo 158 (.bin .neq (.t 157) (ci 0)), oo 159 (.mv (.t 158)), og 160 159 false (.fieldA 5 (.t 1)), og 161 159 false (.load none (.t 160)), og 162 159 false (.bin .neq (.t 161) (ci 0)), oo 163 (.pick (.t 159) (.c (.bool true)) (.t 162))]
def r_ingotref13_own_36 := rg r_ingotref13_own_36_o [163]
@[go_sem] theorem r_ingotref13_own_36_u : Gr X K s r_ingotref13_own_36 r_ingotref13_own_36_o [163] := go_region _ _
@[go_sem] def r_ingotref13_own_37_o : Ops := [
oo 2 (.asg (ci 1))]
def r_ingotref13_own_37 := rg r_ingotref13_own_37_o [2]
@[go_sem] theorem r_ingotref13_own_37_u : Gr X K s r_ingotref13_own_37 r_ingotref13_own_37_o [2] := go_region _ _
@[go_sem] def r_ingotref13_own_38_o : Ops := [
oo 2 (.asg (ci 0))]
def r_ingotref13_own_38 := rg r_ingotref13_own_38_o [2]
@[go_sem] theorem r_ingotref13_own_38_u : Gr X K s r_ingotref13_own_38 r_ingotref13_own_38_o [2] := go_region _ _
def c_ingotref13_own : ICode := (.seq r_ingotref13_own_0 (.seq r_ingotref13_own_1 (.cond (.t 15) (.seq r_ingotref13_own_2 .ret) (.seq r_ingotref13_own_3 (.cond (.t 23) (.seq r_ingotref13_own_4 .ret) (.seq r_ingotref13_own_5 (.seq r_ingotref13_own_6 (.seq (.seq r_ingotref13_own_7 (.block 0 (.seq r_ingotref13_own_8 (.cond (.t 31) r_ingotref13_own_9 (.seq r_ingotref13_own_10 (.cond (.t 35) r_ingotref13_own_11 (.seq r_ingotref13_own_12 (.cond (.t 39) r_ingotref13_own_13 (.seq r_ingotref13_own_14 (.cond (.t 46) r_ingotref13_own_15 .skip)))))))))) (.seq r_ingotref13_own_16 (.cond (.t 66) (.seq r_ingotref13_own_17 .ret) (.seq (.seq r_ingotref13_own_18 (.block 1 (.loop b_ingotref13_own_29))) (.seq r_ingotref13_own_30 (.seq r_ingotref13_own_31 (.cond (.t 132) (.seq r_ingotref13_own_32 .ret) (.seq (.seq r_ingotref13_own_33 (.cond (.t 135) (.seq r_ingotref13_own_34 (.cond (.t 155) (.seq r_ingotref13_own_35 .ret) .skip)) (.seq r_ingotref13_own_36 (.cond (.t 163) (.seq r_ingotref13_own_37 .ret) .skip)))) (.seq r_ingotref13_own_38 .ret))))))))))))))))
def i_ingotref13_own : IFunc := ⟨1, [.t 2], c_ingotref13_own⟩
def a_ingotref13_own : Advice := ⟨[], [(36, [2]), (33, [2]), (32, [155]), (35, [2]), (34, [163]), (31, [1, 135]), (30, [2]), (29, [1, 132]), (28, [1, 7]), (20, [1, 5]), (25, [1, 5, 6]), (27, [2]), (26, [1, 5, 6, 104]), (24, [1, 5, 6, 91]), (23, [1, 5, 6]), (22, [2]), (21, [1, 5, 88]), (19, [1, 5, 71]), (18, [1, 5]), (17, [2]), (16, [1, 66]), (9, [1, 4]), (11, [1, 4]), (13, [1, 4]), (15, [1, 4]), (14, [1, 3, 4, 46]), (12, [1, 3, 4, 30, 39]), (10, [1, 3, 4, 30, 35]), (8, [1, 3, 4, 30, 31]), (7, [1, 3, 4, 30]), (6, [1, 3, 4]), (5, [1, 3]), (4, [2]), (3, [1, 23]), (2, [2]), (1, [1, 15]), (0, [1])], [], [], [], []⟩
/-! ingot/ingotref13.check -/
@[go_sem] def r_ingotref13_check_0_o : Ops := [
oo 3 (.box 6 (.t 0)), oo 6 (.asg (ci 0)), oo 7 (.asg (ci 0))]
def r_ingotref13_check_0 := rg r_ingotref13_check_0_o [1, 2, 3]
@[go_sem] theorem r_ingotref13_check_0_u : Gr X K s r_ingotref13_check_0 r_ingotref13_check_0_o [1, 2, 3] := go_region _ _
@[go_sem] def r_ingotref13_check_1_o : Ops := [
oo 12 (.mv (.t 1)), oo 13 (.bin .gtr (.t 12) (ci 16)), oo 14 (.mv (.t 13)), og 15 14 false (.mv (.t 2)), og 16 14 false (.bin .geq (.t 15) (ci 100)), oo 17 (.pick (.t 14) (.c (.bool true)) (.t 16))]
def r_ingotref13_check_1 := rg r_ingotref13_check_1_o [1, 2, 3, 17]
@[go_sem] theorem r_ingotref13_check_1_u : Gr X K s r_ingotref13_check_1 r_ingotref13_check_1_o [1, 2, 3, 17] := go_region _ _
@[go_sem] def r_ingotref13_check_2_o : Ops := [
oo 18 (.mv (.t 2)), oo 6 (.asg (.t 18)), oo 7 (.asg (ci 4))]
def r_ingotref13_check_2 := rg r_ingotref13_check_2_o [6, 7]
@[go_sem] theorem r_ingotref13_check_2_u : Gr X K s r_ingotref13_check_2 r_ingotref13_check_2_o [6, 7] := go_region _ _
@[go_sem] def r_ingotref13_check_3_o : Ops := [
oo 19 (.load (some 6) (.t 3)), oo 20 (.call false n_ingotref13_own [(.t 19)]), oo 8 (.asg (.t 20))]
def r_ingotref13_check_3 := rg r_ingotref13_check_3_o [1, 2, 3, 8]
@[go_sem] theorem r_ingotref13_check_3_u : Gr X K s r_ingotref13_check_3 r_ingotref13_check_3_o [1, 2, 3, 8] := go_region _ _
@[go_sem] def r_ingotref13_check_4_o : Ops := [
oo 21 (.mv (.t 8)), oo 22 (.bin .neq (.t 21) (ci 0))]
def r_ingotref13_check_4 := rg r_ingotref13_check_4_o [1, 2, 3, 8, 22]
@[go_sem] theorem r_ingotref13_check_4_u : Gr X K s r_ingotref13_check_4 r_ingotref13_check_4_o [1, 2, 3, 8, 22] := go_region _ _
@[go_sem] def r_ingotref13_check_5_o : Ops := [
oo 23 (.mv (.t 2)), oo 24 (.mv (.t 8)), oo 6 (.asg (.t 23)), oo 7 (.asg (.t 24))]
def r_ingotref13_check_5 := rg r_ingotref13_check_5_o [6, 7]
@[go_sem] theorem r_ingotref13_check_5_u : Gr X K s r_ingotref13_check_5 r_ingotref13_check_5_o [6, 7] := go_region _ _
@[go_sem] def r_ingotref13_check_6_o : Ops := [
oo 25 (.mv (.t 2)), oo 26 (.bin .add (.t 25) (ci 1)), oo 2 (.asg (.t 26))]
def r_ingotref13_check_6 := rg r_ingotref13_check_6_o [1, 2, 3]
@[go_sem] theorem r_ingotref13_check_6_u : Gr X K s r_ingotref13_check_6 r_ingotref13_check_6_o [1, 2, 3] := go_region _ _
@[go_sem] def r_ingotref13_check_7_o : Ops := [
oo 9 (.asg (ci 0))]
def r_ingotref13_check_7 := rg r_ingotref13_check_7_o [1, 2, 3, 9]
@[go_sem] theorem r_ingotref13_check_7_u : Gr X K s r_ingotref13_check_7 r_ingotref13_check_7_o [1, 2, 3, 9] := go_region _ _
@[go_sem] def r_ingotref13_check_8_o : Ops := [
oo 27 (.mv (.t 9)), oo 28 (.fieldA 2 (.t 3)), oo 29 (.load none (.t 28)), oo 30 (.len false (.t 29)), oo 31 (.bin .lss (.t 27) (.t 30))]
def r_ingotref13_check_8 := rg r_ingotref13_check_8_o [1, 2, 3, 9, 31]
@[go_sem] theorem r_ingotref13_check_8_u : Gr X K s r_ingotref13_check_8 r_ingotref13_check_8_o [1, 2, 3, 9, 31] := go_region _ _
@[go_sem] def r_ingotref13_check_9_o : Ops := [
oo 35 (.fieldA 2 (.t 3)), oo 36 (.load none (.t 35)), oo 37 (.mv (.t 9)), oo 38 (.idxA 6 (.t 36) (.t 37)), oo 39 (.load (some 6) (.t 38)), oo 40 (.mv (.t 1)), oo 41 (.bin .add (.t 40) (ci 1)), oo 42 (.mv (.t 2)), oo 43 (.call false n_ingotref13_check [(.t 39), (.t 41), (.t 42)]), oo 34 (.mv (.t 43)), oo 44 (.ext (.t 34) 0), oo 45 (.ext (.t 34) 1), oo 10 (.asg (.t 44)), oo 11 (.asg (.t 45))]
def r_ingotref13_check_9 := rg r_ingotref13_check_9_o [1, 3, 9, 10, 11]
@[go_sem] theorem r_ingotref13_check_9_u : Gr X K s r_ingotref13_check_9 r_ingotref13_check_9_o [1, 3, 9, 10, 11] := go_region _ _
@[go_sem] def r_ingotref13_check_10_o : Ops := [
oo 46 (.mv (.t 11)), oo 47 (.bin .neq (.t 46) (ci 0))]
def r_ingotref13_check_10 := rg r_ingotref13_check_10_o [1, 3, 9, 10, 11, 47]
@[go_sem] theorem r_ingotref13_check_10_u : Gr X K s r_ingotref13_check_10 r_ingotref13_check_10_o [1, 3, 9, 10, 11, 47] := go_region _ _
@[go_sem] def r_ingotref13_check_11_o : Ops := [
oo 48 (.mv (.t 10)), oo 49 (.mv (.t 11)), oo 6 (.asg (.t 48)), oo 7 (.asg (.t 49))]
def r_ingotref13_check_11 := rg r_ingotref13_check_11_o [6, 7]
@[go_sem] theorem r_ingotref13_check_11_u : Gr X K s r_ingotref13_check_11 r_ingotref13_check_11_o [6, 7] := go_region _ _
@[go_sem] def r_ingotref13_check_12_o : Ops := [
oo 50 (.mv (.t 10)), oo 2 (.asg (.t 50))]
def r_ingotref13_check_12 := rg r_ingotref13_check_12_o [1, 2, 3, 9]
@[go_sem] theorem r_ingotref13_check_12_u : Gr X K s r_ingotref13_check_12 r_ingotref13_check_12_o [1, 2, 3, 9] := go_region _ _
@[go_sem] def r_ingotref13_check_13_o : Ops := [
oo 32 (.mv (.t 9)), oo 33 (.bin .add (.t 32) (ci 1)), oo 9 (.asg (.t 33))]
def r_ingotref13_check_13 := rg r_ingotref13_check_13_o [1, 2, 3, 9]
@[go_sem] theorem r_ingotref13_check_13_u : Gr X K s r_ingotref13_check_13 r_ingotref13_check_13_o [1, 2, 3, 9] := go_region _ _
def b_ingotref13_check_14 : ICode := (.seq (.seq r_ingotref13_check_8 (.cond (.t 31) .skip (.exit 0))) (.seq (.block 1 (.seq r_ingotref13_check_9 (.seq (.seq r_ingotref13_check_10 (.cond (.t 47) (.seq r_ingotref13_check_11 .ret) .skip)) r_ingotref13_check_12))) r_ingotref13_check_13))
@[go_sem] theorem b_ingotref13_check_14_u : Gn X K s b_ingotref13_check_14 (.seq (.seq r_ingotref13_check_8 (.cond (.t 31) .skip (.exit 0))) (.seq (.block 1 (.seq r_ingotref13_check_9 (.seq (.seq r_ingotref13_check_10 (.cond (.t 47) (.seq r_ingotref13_check_11 .ret) .skip)) r_ingotref13_check_12))) r_ingotref13_check_13)) := rfl
@[go_sem] def r_ingotref13_check_15_o : Ops := [
oo 51 (.mv (.t 2)), oo 6 (.asg (.t 51)), oo 7 (.asg (ci 0))]
def r_ingotref13_check_15 := rg r_ingotref13_check_15_o [6, 7]
@[go_sem] theorem r_ingotref13_check_15_u : Gr X K s r_ingotref13_check_15 r_ingotref13_check_15_o [6, 7] := go_region _ _
def c_ingotref13_check : ICode := (.seq r_ingotref13_check_0 (.seq r_ingotref13_check_1 (.cond (.t 17) (.seq r_ingotref13_check_2 .ret) (.seq r_ingotref13_check_3 (.seq r_ingotref13_check_4 (.cond (.t 22) (.seq r_ingotref13_check_5 .ret) (.seq r_ingotref13_check_6 (.seq (.seq r_ingotref13_check_7 (.block 0 (.loop b_ingotref13_check_14))) (.seq r_ingotref13_check_15 .ret)))))))))
def i_ingotref13_check : IFunc := ⟨3, [.t 6, .t 7], c_ingotref13_check⟩
def a_ingotref13_check : Advice := ⟨[], [(14, [6, 7]), (9, [1, 2, 3, 9]), (13, [1, 2, 3, 9]), (12, [6, 7]), (11, [1, 3, 9, 10, 11, 47]), (10, [1, 3, 9, 10, 11]), (8, [1, 2, 3, 9, 31]), (7, [1, 2, 3, 9]), (6, [1, 2, 3]), (5, [6, 7]), (4, [1, 2, 3, 8, 22]), (3, [1, 2, 3, 8]), (2, [6, 7]), (1, [1, 2, 3, 17]), (0, [1, 2, 3])], [], [], [], []⟩
/-! ingot/ingotref13.Check -/
@[go_sem] def r_ingotref13_Check_0_o : Ops := [
oo 1 (.box 6 (.t 0)), oo 2 (.asg (ci 0))]
def r_ingotref13_Check_0 := rg r_ingotref13_Check_0_o [1]
@[go_sem] theorem r_ingotref13_Check_0_u : Gr X K s r_ingotref13_Check_0 r_ingotref13_Check_0_o [1] := go_region _ _
@[go_sem] def r_ingotref13_Check_1_o : Ops := [
oo 6 (.load (some 6) (.t 1)), oo 7 (.call false n_ingotref13_check [(.t 6), (ci 1), (ci 0)]), oo 5 (.mv (.t 7)), oo 8 (.ext (.t 5) 0), oo 9 (.ext (.t 5) 1), oo 3 (.asg (.t 8)), oo 4 (.asg (.t 9))]
def r_ingotref13_Check_1 := rg r_ingotref13_Check_1_o [4]
@[go_sem] theorem r_ingotref13_Check_1_u : Gr X K s r_ingotref13_Check_1 r_ingotref13_Check_1_o [4] := go_region _ _
@[go_sem] def r_ingotref13_Check_2_o : Ops := [
oo 10 (.mv (.t 4)), oo 2 (.asg (.t 10))]
def r_ingotref13_Check_2 := rg r_ingotref13_Check_2_o [2]
@[go_sem] theorem r_ingotref13_Check_2_u : Gr X K s r_ingotref13_Check_2 r_ingotref13_Check_2_o [2] := go_region _ _
def c_ingotref13_Check : ICode := (.seq r_ingotref13_Check_0 (.seq r_ingotref13_Check_1 (.seq r_ingotref13_Check_2 .ret)))
def i_ingotref13_Check : IFunc := ⟨1, [.t 2], c_ingotref13_Check⟩
def a_ingotref13_Check : Advice := ⟨[], [(2, [2]), (1, [4]), (0, [1])], [], [], [], []⟩
/-! ingot/ingotlaw13.few -/
@[go_sem] def r_ingotlaw13_few_0_o : Ops := [
oo 2 (.box 6 (.t 0)), oo 4 (.asg (ci 0))]
def r_ingotlaw13_few_0 := rg r_ingotlaw13_few_0_o [1, 2]
@[go_sem] theorem r_ingotlaw13_few_0_u : Gr X K s r_ingotlaw13_few_0 r_ingotlaw13_few_0_o [1, 2] := go_region _ _
@[go_sem] def r_ingotlaw13_few_1_o : Ops := [
oo 8 (.mv (.t 1)), oo 9 (.bin .gtr (.t 8) (ci 20)), oo 10 (.mv (.t 9)), og 11 10 false (.fieldA 2 (.t 2)), og 12 10 false (.load none (.t 11)), og 13 10 false (.len false (.t 12)), og 14 10 false (.bin .gtr (.t 13) (ci 300)), oo 15 (.pick (.t 10) (.c (.bool true)) (.t 14)), oo 16 (.mv (.t 15)), og 17 16 false (.fieldA 1 (.t 2)), og 18 16 false (.load none (.t 17)), og 19 16 false (.len false (.t 18)), og 20 16 false (.bin .gtr (.t 19) (ci 300)), oo 21 (.pick (.t 16) (.c (.bool true)) (.t 20))]
def r_ingotlaw13_few_1 := rg r_ingotlaw13_few_1_o [1, 2, 21]
@[go_sem] theorem r_ingotlaw13_few_1_u : Gr X K s r_ingotlaw13_few_1 r_ingotlaw13_few_1_o [1, 2, 21] := go_region _ _
@[go_sem] def r_ingotlaw13_few_2_o : Ops := [
oo 4 (.asg (ci 1000))]
def r_ingotlaw13_few_2 := rg r_ingotlaw13_few_2_o [4]
@[go_sem] theorem r_ingotlaw13_few_2_u : Gr X K s r_ingotlaw13_few_2 r_ingotlaw13_few_2_o [4] := go_region _ _
@[go_sem] def r_ingotlaw13_few_3_o : Ops := [
oo 5 (.asg (ci 1))]
def r_ingotlaw13_few_3 := rg r_ingotlaw13_few_3_o [1, 2, 5]
@[go_sem] theorem r_ingotlaw13_few_3_u : Gr X K s r_ingotlaw13_few_3 r_ingotlaw13_few_3_o [1, 2, 5] := go_region _ _
@[go_sem] def r_ingotlaw13_few_4_o : Ops := [
oo 6 (.asg (ci 0))]
def r_ingotlaw13_few_4 := rg r_ingotlaw13_few_4_o [1, 2, 5, 6]
@[go_sem] theorem r_ingotlaw13_few_4_u : Gr X K s r_ingotlaw13_few_4 r_ingotlaw13_few_4_o [1, 2, 5, 6] := go_region _ _
@[go_sem] def r_ingotlaw13_few_5_o : Ops := [
oo 22 (.mv (.t 6)), oo 23 (.fieldA 1 (.t 2)), oo 24 (.load none (.t 23)), oo 25 (.len false (.t 24)), oo 26 (.bin .lss (.t 22) (.t 25))]
def r_ingotlaw13_few_5 := rg r_ingotlaw13_few_5_o [1, 2, 5, 6, 26]
@[go_sem] theorem r_ingotlaw13_few_5_u : Gr X K s r_ingotlaw13_few_5 r_ingotlaw13_few_5_o [1, 2, 5, 6, 26] := go_region _ _
@[go_sem] def r_ingotlaw13_few_6_o : Ops := [
oo 29 (.fieldA 1 (.t 2)), oo 30 (.load none (.t 29)), oo 31 (.mv (.t 6)), oo 32 (.idxA 1 (.t 30) (.t 31)), oo 33 (.load none (.t 32)), oo 34 (.len true (.t 33)), oo 35 (.bin .gtr (.t 34) (ci 200))]
def r_ingotlaw13_few_6 := rg r_ingotlaw13_few_6_o [1, 2, 5, 6, 35]
@[go_sem] theorem r_ingotlaw13_few_6_u : Gr X K s r_ingotlaw13_few_6 r_ingotlaw13_few_6_o [1, 2, 5, 6, 35] := go_region _ _
@[go_sem] def r_ingotlaw13_few_7_o : Ops := [
oo 4 (.asg (ci 1000))]
def r_ingotlaw13_few_7 := rg r_ingotlaw13_few_7_o [4]
@[go_sem] theorem r_ingotlaw13_few_7_u : Gr X K s r_ingotlaw13_few_7 r_ingotlaw13_few_7_o [4] := go_region _ _
@[go_sem] def r_ingotlaw13_few_8_o : Ops := [
oo 27 (.mv (.t 6)), oo 28 (.bin .add (.t 27) (ci 1)), oo 6 (.asg (.t 28))]
def r_ingotlaw13_few_8 := rg r_ingotlaw13_few_8_o [1, 2, 5, 6]
@[go_sem] theorem r_ingotlaw13_few_8_u : Gr X K s r_ingotlaw13_few_8 r_ingotlaw13_few_8_o [1, 2, 5, 6] := go_region _ _
def b_ingotlaw13_few_9 : ICode := (.seq (.seq r_ingotlaw13_few_5 (.cond (.t 26) .skip (.exit 0))) (.seq (.block 1 (.seq r_ingotlaw13_few_6 (.cond (.t 35) (.seq r_ingotlaw13_few_7 .ret) .skip))) r_ingotlaw13_few_8))
@[go_sem] theorem b_ingotlaw13_few_9_u : Gn X K s b_ingotlaw13_few_9 (.seq (.seq r_ingotlaw13_few_5 (.cond (.t 26) .skip (.exit 0))) (.seq (.block 1 (.seq r_ingotlaw13_few_6 (.cond (.t 35) (.seq r_ingotlaw13_few_7 .ret) .skip))) r_ingotlaw13_few_8)) := rfl
@[go_sem] def r_ingotlaw13_few_10_o : Ops := [
oo 7 (.asg (ci 0))]
def r_ingotlaw13_few_10 := rg r_ingotlaw13_few_10_o [1, 2, 5, 7]
@[go_sem] theorem r_ingotlaw13_few_10_u : Gr X K s r_ingotlaw13_few_10 r_ingotlaw13_few_10_o [1, 2, 5, 7] := go_region _ _
@[go_sem] def r_ingotlaw13_few_11_o : Ops := [
oo 36 (.mv (.t 7)), oo 37 (.fieldA 2 (.t 2)), oo 38 (.load none (.t 37)), oo 39 (.len false (.t 38)), oo 40 (.bin .lss (.t 36) (.t 39))]
def r_ingotlaw13_few_11 := rg r_ingotlaw13_few_11_o [1, 2, 5, 7, 40]
@[go_sem] theorem r_ingotlaw13_few_11_u : Gr X K s r_ingotlaw13_few_11 r_ingotlaw13_few_11_o [1, 2, 5, 7, 40] := go_region _ _
@[go_sem] def r_ingotlaw13_few_12_o : Ops := [
oo 43 (.mv (.t 5)), oo 44 (.fieldA 2 (.t 2)), oo 45 (.load none (.t 44)), oo 46 (.mv (.t 7)), oo 47 (.idxA 6 (.t 45) (.t 46)), oo 48 (.load (some 6) (.t 47)), oo 49 (.mv (.t 1)), oo 50 (.bin .add (.t 49) (ci 1)), oo 51 (.call false n_ingotlaw13_few [(.t 48), (.t 50)]), oo 52 (.bin .add (.t 43) (.t 51)), oo 5 (.asg (.t 52))]
def r_ingotlaw13_few_12 := rg r_ingotlaw13_few_12_o [1, 2, 5, 7]
@[go_sem] theorem r_ingotlaw13_few_12_u : Gr X K s r_ingotlaw13_few_12 r_ingotlaw13_few_12_o [1, 2, 5, 7] := go_region _ _
@[go_sem] def r_ingotlaw13_few_13_o : Ops := [
oo 53 (.mv (.t 5)), oo 54 (.bin .gtr (.t 53) (ci 1000))]
def r_ingotlaw13_few_13 := rg r_ingotlaw13_few_13_o [1, 2, 5, 7, 54]
@[go_sem] theorem r_ingotlaw13_few_13_u : Gr X K s r_ingotlaw13_few_13 r_ingotlaw13_few_13_o [1, 2, 5, 7, 54] := go_region _ _
@[go_sem] def r_ingotlaw13_few_14_o : Ops := [
oo 4 (.asg (ci 1000))]
def r_ingotlaw13_few_14 := rg r_ingotlaw13_few_14_o [4]
@[go_sem] theorem r_ingotlaw13_few_14_u : Gr X K s r_ingotlaw13_few_14 r_ingotlaw13_few_14_o [4] := go_region _ _
@[go_sem] def r_ingotlaw13_few_15_o : Ops := [
oo 41 (.mv (.t 7)), oo 42 (.bin .add (.t 41) (ci 1)), oo 7 (.asg (.t 42))]
def r_ingotlaw13_few_15 := rg r_ingotlaw13_few_15_o [1, 2, 5, 7]
@[go_sem] theorem r_ingotlaw13_few_15_u : Gr X K s r_ingotlaw13_few_15 r_ingotlaw13_few_15_o [1, 2, 5, 7] := go_region _ _
def b_ingotlaw13_few_16 : ICode := (.seq (.seq r_ingotlaw13_few_11 (.cond (.t 40) .skip (.exit 2))) (.seq (.block 3 (.seq r_ingotlaw13_few_12 (.seq r_ingotlaw13_few_13 (.cond (.t 54) (.seq r_ingotlaw13_few_14 .ret) .skip)))) r_ingotlaw13_few_15))
@[go_sem] theorem b_ingotlaw13_few_16_u : Gn X K s b_ingotlaw13_few_16 (.seq (.seq r_ingotlaw13_few_11 (.cond (.t 40) .skip (.exit 2))) (.seq (.block 3 (.seq r_ingotlaw13_few_12 (.seq r_ingotlaw13_few_13 (.cond (.t 54) (.seq r_ingotlaw13_few_14 .ret) .skip)))) r_ingotlaw13_few_15)) := rfl
@[go_sem] def r_ingotlaw13_few_17_o : Ops := [
oo 55 (.mv (.t 5)), oo 4 (.asg (.t 55))]
def r_ingotlaw13_few_17 := rg r_ingotlaw13_few_17_o [4]
@[go_sem] theorem r_ingotlaw13_few_17_u : Gr X K s r_ingotlaw13_few_17 r_ingotlaw13_few_17_o [4] := go_region _ _
def c_ingotlaw13_few : ICode := (.seq r_ingotlaw13_few_0 (.seq r_ingotlaw13_few_1 (.cond (.t 21) (.seq r_ingotlaw13_few_2 .ret) (.seq r_ingotlaw13_few_3 (.seq (.seq r_ingotlaw13_few_4 (.block 0 (.loop b_ingotlaw13_few_9))) (.seq (.seq r_ingotlaw13_few_10 (.block 2 (.loop b_ingotlaw13_few_16))) (.seq r_ingotlaw13_few_17 .ret)))))))
def i_ingotlaw13_few : IFunc := ⟨2, [.t 4], c_ingotlaw13_few⟩
def a_ingotlaw13_few : Advice := ⟨[], [(15, [4]), (11, [1, 2, 5, 7]), (14, [4]), (13, [1, 2, 5, 7, 54]), (12, [1, 2, 5, 7]), (10, [1, 2, 5, 7, 40]), (9, [1, 2, 5, 7]), (6, [1, 2, 5, 6]), (8, [4]), (7, [1, 2, 5, 6, 35]), (5, [1, 2, 5, 6, 26]), (4, [1, 2, 5, 6]), (3, [1, 2, 5]), (2, [4]), (1, [1, 2, 21]), (0, [1, 2])], [], [], [], []⟩
/-! ingot/ingotlaw13.Few -/
@[go_sem] def r_ingotlaw13_Few_0_o : Ops := [
oo 1 (.box 6 (.t 0)), oo 2 (.asg (.c (.bool false)))]
def r_ingotlaw13_Few_0 := rg r_ingotlaw13_Few_0_o [1]
@[go_sem] theorem r_ingotlaw13_Few_0_u : Gr X K s r_ingotlaw13_Few_0 r_ingotlaw13_Few_0_o [1] := go_region _ _
@[go_sem] def r_ingotlaw13_Few_1_o : Ops := [
oo 4 (.load (some 6) (.t 1)), oo 5 (.call false n_ingotlaw13_few [(.t 4), (ci 1)]), oo 3 (.asg (.t 5))]
def r_ingotlaw13_Few_1 := rg r_ingotlaw13_Few_1_o [3]
@[go_sem] theorem r_ingotlaw13_Few_1_u : Gr X K s r_ingotlaw13_Few_1 r_ingotlaw13_Few_1_o [3] := go_region _ _
@[go_sem] def r_ingotlaw13_Few_2_o : Ops := [
oo 6 (.mv (.t 3)), oo 7 (.bin .leq (.t 6) (ci 150)), oo 2 (.asg (.t 7))]
def r_ingotlaw13_Few_2 := rg r_ingotlaw13_Few_2_o [2]
@[go_sem] theorem r_ingotlaw13_Few_2_u : Gr X K s r_ingotlaw13_Few_2 r_ingotlaw13_Few_2_o [2] := go_region _ _
def c_ingotlaw13_Few : ICode := (.seq r_ingotlaw13_Few_0 (.seq r_ingotlaw13_Few_1 (.seq r_ingotlaw13_Few_2 .ret)))
def i_ingotlaw13_Few : IFunc := ⟨1, [.t 2], c_ingotlaw13_Few⟩
def a_ingotlaw13_Few : Advice := ⟨[], [(2, [2]), (1, [3]), (0, [1])], [], [], [], []⟩
/-! ingot/foot.PutTypes -/
@[go_sem] def r_foot_PutTypes_0_o : Ops := [
oo 3 (.box 6 (.t 1)), oo 4 (.asg (.c .nilS))]
def r_foot_PutTypes_0 := rg r_foot_PutTypes_0_o [0, 3]
@[go_sem] theorem r_foot_PutTypes_0_u : Gr X K s r_foot_PutTypes_0 r_foot_PutTypes_0_o [0, 3] := go_region _ _
@[go_sem] def r_foot_PutTypes_1_o : Ops := [
oo 16 (.mv (.t 0)), oo 17 (.call false n_slices_Clone_Sbyte_byte [(.t 16)]), oo 5 (.asg (.t 17))]
def r_foot_PutTypes_1 := rg r_foot_PutTypes_1_o [3, 5]
@[go_sem] theorem r_foot_PutTypes_1_u : Gr X K s r_foot_PutTypes_1 r_foot_PutTypes_1_o [3, 5] := go_region _ _
@[go_sem] def r_foot_PutTypes_2_o : Ops := [
oo 18 (.load (some 6) (.t 3)), oo 19 (.call false n_types_Flatten [(.t 18)]), oo 20 (.len false (.t 19)), oo 21 (.mv (ci 0))]
def r_foot_PutTypes_2 := rg r_foot_PutTypes_2_o [5, 19, 20, 21]
@[go_sem] theorem r_foot_PutTypes_2_u : Gr X K s r_foot_PutTypes_2 r_foot_PutTypes_2_o [5, 19, 20, 21] := go_region _ _
@[go_sem] def r_foot_PutTypes_3_o : Ops := [
oo 22 (.bin .lss (.t 21) (.t 20))]
def r_foot_PutTypes_3 := rg r_foot_PutTypes_3_o [5, 19, 20, 21, 22]
@[go_sem] theorem r_foot_PutTypes_3_u : Gr X K s r_foot_PutTypes_3 r_foot_PutTypes_3_o [5, 19, 20, 21, 22] := go_region _ _
@[go_sem] def r_foot_PutTypes_4_o : Ops := [
oo 23 (.idxA 8 (.t 19) (.t 21)), oo 24 (.load (some 8) (.t 23)), oo 7 (.alloc [(.int .i64 0), .nilS, .nilS, (.int .i64 0), (.int .i64 0), (.int .i64 0), (.int .i64 0), (.int .i64 0)]), ow (.store 8 (.t 7) (.t 24))]
def r_foot_PutTypes_4 := rg r_foot_PutTypes_4_o [5, 7, 19, 20, 21]
@[go_sem] theorem r_foot_PutTypes_4_u : Gr X K s r_foot_PutTypes_4 r_foot_PutTypes_4_o [5, 7, 19, 20, 21] := go_region _ _
@[go_sem] def r_foot_PutTypes_5_o : Ops := [
oo 25 (.fieldA 0 (.t 7)), oo 26 (.load none (.t 25)), oo 27 (.cvInt .u64 (.t 26)), oo 28 (.call false n_pb_PutUint [(.c .nilS), (ci 1), (.t 27)]), oo 8 (.asg (.t 28))]
def r_foot_PutTypes_5 := rg r_foot_PutTypes_5_o [5, 7, 8, 19, 20, 21]
@[go_sem] theorem r_foot_PutTypes_5_u : Gr X K s r_foot_PutTypes_5 r_foot_PutTypes_5_o [5, 7, 8, 19, 20, 21] := go_region _ _
@[go_sem] def r_foot_PutTypes_6_o : Ops := [
oo 9 (.asg (.c .nilS))]
def r_foot_PutTypes_6 := rg r_foot_PutTypes_6_o [5, 7, 8, 9, 19, 20, 21]
@[go_sem] theorem r_foot_PutTypes_6_u : Gr X K s r_foot_PutTypes_6 r_foot_PutTypes_6_o [5, 7, 8, 9, 19, 20, 21] := go_region _ _
@[go_sem] def r_foot_PutTypes_7_o : Ops := [
oo 29 (.fieldA 1 (.t 7)), oo 30 (.load none (.t 29)), oo 31 (.len false (.t 30)), oo 32 (.mv (ci 0))]
def r_foot_PutTypes_7 := rg r_foot_PutTypes_7_o [5, 7, 8, 9, 19, 20, 21, 30, 31, 32]
@[go_sem] theorem r_foot_PutTypes_7_u : Gr X K s r_foot_PutTypes_7 r_foot_PutTypes_7_o [5, 7, 8, 9, 19, 20, 21, 30, 31, 32] := go_region _ _
@[go_sem] def r_foot_PutTypes_8_o : Ops := [
oo 33 (.bin .lss (.t 32) (.t 31))]
def r_foot_PutTypes_8 := rg r_foot_PutTypes_8_o [5, 7, 8, 9, 19, 20, 21, 30, 31, 32, 33]
@[go_sem] theorem r_foot_PutTypes_8_u : Gr X K s r_foot_PutTypes_8 r_foot_PutTypes_8_o [5, 7, 8, 9, 19, 20, 21, 30, 31, 32, 33] := go_region _ _
@[go_sem] def r_foot_PutTypes_9_o : Ops := [
oo 34 (.idxA 1 (.t 30) (.t 32)), oo 35 (.load none (.t 34)), oo 11 (.asg (.t 35))]
def r_foot_PutTypes_9 := rg r_foot_PutTypes_9_o [5, 7, 8, 9, 11, 19, 20, 21, 30, 31, 32]
@[go_sem] theorem r_foot_PutTypes_9_u : Gr X K s r_foot_PutTypes_9 r_foot_PutTypes_9_o [5, 7, 8, 9, 11, 19, 20, 21, 30, 31, 32] := go_region _ _
@[go_sem] def r_foot_PutTypes_10_o : Ops := [
oo 36 (.mv (.t 9)), oo 37 (.mv (.t 11)), oo 38 (.cvInt .u64 (.t 37)), oo 39 (.call false n_nums_PutVar [(.t 36), (.t 38)]), oo 9 (.asg (.t 39))]
def r_foot_PutTypes_10 := rg r_foot_PutTypes_10_o [5, 7, 8, 9, 19, 20, 21, 30, 31, 32]
@[go_sem] theorem r_foot_PutTypes_10_u : Gr X K s r_foot_PutTypes_10 r_foot_PutTypes_10_o [5, 7, 8, 9, 19, 20, 21, 30, 31, 32] := go_region _ _
@[go_sem] def r_foot_PutTypes_11_o : Ops := [
oo 40 (.bin .add (.t 32) (ci 1)), oo 32 (.mv (.t 40))]
def r_foot_PutTypes_11 := rg r_foot_PutTypes_11_o [5, 7, 8, 9, 19, 20, 21, 30, 31, 32]
@[go_sem] theorem r_foot_PutTypes_11_u : Gr X K s r_foot_PutTypes_11 r_foot_PutTypes_11_o [5, 7, 8, 9, 19, 20, 21, 30, 31, 32] := go_region _ _
def b_foot_PutTypes_12 : ICode := (.seq r_foot_PutTypes_8 (.seq (.cond (.t 33) .skip (.exit 2)) (.seq (.block 3 (.seq r_foot_PutTypes_9 r_foot_PutTypes_10)) r_foot_PutTypes_11)))
@[go_sem] theorem b_foot_PutTypes_12_u : Gn X K s b_foot_PutTypes_12 (.seq r_foot_PutTypes_8 (.seq (.cond (.t 33) .skip (.exit 2)) (.seq (.block 3 (.seq r_foot_PutTypes_9 r_foot_PutTypes_10)) r_foot_PutTypes_11))) := rfl
@[go_sem] def r_foot_PutTypes_13_o : Ops := [
oo 41 (.mv (.t 9)), oo 42 (.len false (.t 41)), oo 43 (.bin .gtr (.t 42) (ci 0))]
def r_foot_PutTypes_13 := rg r_foot_PutTypes_13_o [5, 7, 8, 9, 19, 20, 21, 43]
@[go_sem] theorem r_foot_PutTypes_13_u : Gr X K s r_foot_PutTypes_13 r_foot_PutTypes_13_o [5, 7, 8, 9, 19, 20, 21, 43] := go_region _ _
@[go_sem] def r_foot_PutTypes_14_o : Ops := [
oo 44 (.mv (.t 8)), oo 45 (.mv (.t 9)), oo 46 (.call false n_pb_PutBytes [(.t 44), (ci 2), (.t 45)]), oo 8 (.asg (.t 46))]
def r_foot_PutTypes_14 := rg r_foot_PutTypes_14_o [5, 7, 8, 19, 20, 21]
@[go_sem] theorem r_foot_PutTypes_14_u : Gr X K s r_foot_PutTypes_14 r_foot_PutTypes_14_o [5, 7, 8, 19, 20, 21] := go_region _ _
@[go_sem] def r_foot_PutTypes_15_o : Ops := [
oo 47 (.fieldA 2 (.t 7)), oo 48 (.load none (.t 47)), oo 49 (.len false (.t 48)), oo 50 (.mv (ci 0))]
def r_foot_PutTypes_15 := rg r_foot_PutTypes_15_o [5, 7, 8, 19, 20, 21, 48, 49, 50]
@[go_sem] theorem r_foot_PutTypes_15_u : Gr X K s r_foot_PutTypes_15 r_foot_PutTypes_15_o [5, 7, 8, 19, 20, 21, 48, 49, 50] := go_region _ _
@[go_sem] def r_foot_PutTypes_16_o : Ops := [
oo 51 (.bin .lss (.t 50) (.t 49))]
def r_foot_PutTypes_16 := rg r_foot_PutTypes_16_o [5, 7, 8, 19, 20, 21, 48, 49, 50, 51]
@[go_sem] theorem r_foot_PutTypes_16_u : Gr X K s r_foot_PutTypes_16 r_foot_PutTypes_16_o [5, 7, 8, 19, 20, 21, 48, 49, 50, 51] := go_region _ _
@[go_sem] def r_foot_PutTypes_17_o : Ops := [
oo 52 (.idxA 1 (.t 48) (.t 50)), oo 53 (.load none (.t 52)), oo 13 (.asg (.t 53))]
def r_foot_PutTypes_17 := rg r_foot_PutTypes_17_o [5, 7, 8, 13, 19, 20, 21, 48, 49, 50]
@[go_sem] theorem r_foot_PutTypes_17_u : Gr X K s r_foot_PutTypes_17 r_foot_PutTypes_17_o [5, 7, 8, 13, 19, 20, 21, 48, 49, 50] := go_region _ _
@[go_sem] def r_foot_PutTypes_18_o : Ops := [
oo 54 (.mv (.t 8)), oo 55 (.mv (.t 13)), oo 56 (.s2b false (.t 55)), oo 57 (.call false n_pb_PutBytes [(.t 54), (ci 3), (.t 56)]), oo 8 (.asg (.t 57))]
def r_foot_PutTypes_18 := rg r_foot_PutTypes_18_o [5, 7, 8, 19, 20, 21, 48, 49, 50]
@[go_sem] theorem r_foot_PutTypes_18_u : Gr X K s r_foot_PutTypes_18 r_foot_PutTypes_18_o [5, 7, 8, 19, 20, 21, 48, 49, 50] := go_region _ _
@[go_sem] def r_foot_PutTypes_19_o : Ops := [
oo 58 (.bin .add (.t 50) (ci 1)), oo 50 (.mv (.t 58))]
def r_foot_PutTypes_19 := rg r_foot_PutTypes_19_o [5, 7, 8, 19, 20, 21, 48, 49, 50]
@[go_sem] theorem r_foot_PutTypes_19_u : Gr X K s r_foot_PutTypes_19 r_foot_PutTypes_19_o [5, 7, 8, 19, 20, 21, 48, 49, 50] := go_region _ _
def b_foot_PutTypes_20 : ICode := (.seq r_foot_PutTypes_16 (.seq (.cond (.t 51) .skip (.exit 4)) (.seq (.block 5 (.seq r_foot_PutTypes_17 r_foot_PutTypes_18)) r_foot_PutTypes_19)))
@[go_sem] theorem b_foot_PutTypes_20_u : Gn X K s b_foot_PutTypes_20 (.seq r_foot_PutTypes_16 (.seq (.cond (.t 51) .skip (.exit 4)) (.seq (.block 5 (.seq r_foot_PutTypes_17 r_foot_PutTypes_18)) r_foot_PutTypes_19))) := rfl
@[go_sem] def r_foot_PutTypes_21_o : Ops := [
oo 59 (.fieldA 3 (.t 7)), oo 60 (.load none (.t 59)), oo 61 (.fieldA 4 (.t 7)), oo 62 (.load none (.t 61)), oo 63 (.fieldA 5 (.t 7)), oo 64 (.load none (.t 63)), oo 65 (.lit false 1 3 (.int .i64 0) [(0, (.t 60)), (1, (.t 62)), (2, (.t 64))]), oo 66 (.len false (.t 65)), oo 67 (.mv (ci 0))]
def r_foot_PutTypes_21 := rg r_foot_PutTypes_21_o [5, 8, 19, 20, 21, 65, 66, 67]
@[go_sem] theorem r_foot_PutTypes_21_u : Gr X K s r_foot_PutTypes_21 r_foot_PutTypes_21_o [5, 8, 19, 20, 21, 65, 66, 67] := go_region _ _
@[go_sem] def r_foot_PutTypes_22_o : Ops := [
oo 68 (.bin .lss (.t 67) (.t 66))]
def r_foot_PutTypes_22 := rg r_foot_PutTypes_22_o [5, 8, 19, 20, 21, 65, 66, 67, 68]
@[go_sem] theorem r_foot_PutTypes_22_u : Gr X K s r_foot_PutTypes_22 r_foot_PutTypes_22_o [5, 8, 19, 20, 21, 65, 66, 67, 68] := go_region _ _
@[go_sem] def r_foot_PutTypes_23_o : Ops := [
oo 69 (.mv (.t 67)), oo 70 (.idxA 1 (.t 65) (.t 67)), oo 71 (.load none (.t 70)), oo 14 (.asg (.t 69)), oo 15 (.asg (.t 71))]
def r_foot_PutTypes_23 := rg r_foot_PutTypes_23_o [5, 8, 14, 15, 19, 20, 21, 65, 66, 67]
@[go_sem] theorem r_foot_PutTypes_23_u : Gr X K s r_foot_PutTypes_23 r_foot_PutTypes_23_o [5, 8, 14, 15, 19, 20, 21, 65, 66, 67] := go_region _ _
@[go_sem] def r_foot_PutTypes_24_o : Ops := [
oo 72 (.mv (.t 15)), oo 73 (.bin .neq (.t 72) (ci 0))]
def r_foot_PutTypes_24 := rg r_foot_PutTypes_24_o [5, 8, 14, 15, 19, 20, 21, 65, 66, 67, 73]
@[go_sem] theorem r_foot_PutTypes_24_u : Gr X K s r_foot_PutTypes_24 r_foot_PutTypes_24_o [5, 8, 14, 15, 19, 20, 21, 65, 66, 67, 73] := go_region _ _
@[go_sem] def r_foot_PutTypes_25_o : Ops := [
oo 74 (.mv (.t 8)), oo 75 (.mv (.t 14)), oo 76 (.bin .add (ci 4) (.t 75)), oo 77 (.mv (.t 15)), oo 78 (.cvInt .u64 (.t 77)), oo 79 (.call false n_pb_PutUint [(.t 74), (.t 76), (.t 78)]), oo 8 (.asg (.t 79))]
def r_foot_PutTypes_25 := rg r_foot_PutTypes_25_o [5, 8, 19, 20, 21, 65, 66, 67]
@[go_sem] theorem r_foot_PutTypes_25_u : Gr X K s r_foot_PutTypes_25 r_foot_PutTypes_25_o [5, 8, 19, 20, 21, 65, 66, 67] := go_region _ _
@[go_sem] def r_foot_PutTypes_26_o : Ops := [
oo 80 (.bin .add (.t 67) (ci 1)), oo 67 (.mv (.t 80))]
def r_foot_PutTypes_26 := rg r_foot_PutTypes_26_o [5, 8, 19, 20, 21, 65, 66, 67]
@[go_sem] theorem r_foot_PutTypes_26_u : Gr X K s r_foot_PutTypes_26 r_foot_PutTypes_26_o [5, 8, 19, 20, 21, 65, 66, 67] := go_region _ _
def b_foot_PutTypes_27 : ICode := (.seq r_foot_PutTypes_22 (.seq (.cond (.t 68) .skip (.exit 6)) (.seq (.block 7 (.seq r_foot_PutTypes_23 (.seq r_foot_PutTypes_24 (.cond (.t 73) r_foot_PutTypes_25 .skip)))) r_foot_PutTypes_26)))
@[go_sem] theorem b_foot_PutTypes_27_u : Gn X K s b_foot_PutTypes_27 (.seq r_foot_PutTypes_22 (.seq (.cond (.t 68) .skip (.exit 6)) (.seq (.block 7 (.seq r_foot_PutTypes_23 (.seq r_foot_PutTypes_24 (.cond (.t 73) r_foot_PutTypes_25 .skip)))) r_foot_PutTypes_26))) := rfl
@[go_sem] def r_foot_PutTypes_28_o : Ops := [
oo 81 (.mv (.t 5)), oo 82 (.mv (.t 8)), oo 83 (.call false n_pb_PutBytes [(.t 81), (ci 4), (.t 82)]), oo 5 (.asg (.t 83))]
def r_foot_PutTypes_28 := rg r_foot_PutTypes_28_o [5, 19, 20, 21]
@[go_sem] theorem r_foot_PutTypes_28_u : Gr X K s r_foot_PutTypes_28 r_foot_PutTypes_28_o [5, 19, 20, 21] := go_region _ _
@[go_sem] def r_foot_PutTypes_29_o : Ops := [
oo 84 (.bin .add (.t 21) (ci 1)), oo 21 (.mv (.t 84))]
def r_foot_PutTypes_29 := rg r_foot_PutTypes_29_o [5, 19, 20, 21]
@[go_sem] theorem r_foot_PutTypes_29_u : Gr X K s r_foot_PutTypes_29 r_foot_PutTypes_29_o [5, 19, 20, 21] := go_region _ _
def b_foot_PutTypes_30 : ICode := (.seq r_foot_PutTypes_3 (.seq (.cond (.t 22) .skip (.exit 0)) (.seq (.block 1 (.seq (.seq (.free 7) r_foot_PutTypes_4) (.seq r_foot_PutTypes_5 (.seq r_foot_PutTypes_6 (.seq (.seq r_foot_PutTypes_7 (.block 2 (.loop b_foot_PutTypes_12))) (.seq (.seq r_foot_PutTypes_13 (.cond (.t 43) r_foot_PutTypes_14 .skip)) (.seq (.seq r_foot_PutTypes_15 (.block 4 (.loop b_foot_PutTypes_20))) (.seq (.seq r_foot_PutTypes_21 (.block 6 (.loop b_foot_PutTypes_27))) r_foot_PutTypes_28)))))))) r_foot_PutTypes_29)))
@[go_sem] theorem b_foot_PutTypes_30_u : Gn X K s b_foot_PutTypes_30 (.seq r_foot_PutTypes_3 (.seq (.cond (.t 22) .skip (.exit 0)) (.seq (.block 1 (.seq (.seq (.free 7) r_foot_PutTypes_4) (.seq r_foot_PutTypes_5 (.seq r_foot_PutTypes_6 (.seq (.seq r_foot_PutTypes_7 (.block 2 (.loop b_foot_PutTypes_12))) (.seq (.seq r_foot_PutTypes_13 (.cond (.t 43) r_foot_PutTypes_14 .skip)) (.seq (.seq r_foot_PutTypes_15 (.block 4 (.loop b_foot_PutTypes_20))) (.seq (.seq r_foot_PutTypes_21 (.block 6 (.loop b_foot_PutTypes_27))) r_foot_PutTypes_28)))))))) r_foot_PutTypes_29))) := rfl
@[go_sem] def r_foot_PutTypes_31_o : Ops := [
oo 85 (.mv (.t 5)), oo 4 (.asg (.t 85))]
def r_foot_PutTypes_31 := rg r_foot_PutTypes_31_o [4]
@[go_sem] theorem r_foot_PutTypes_31_u : Gr X K s r_foot_PutTypes_31 r_foot_PutTypes_31_o [4] := go_region _ _
def c_foot_PutTypes : ICode := (.seq r_foot_PutTypes_0 (.seq r_foot_PutTypes_1 (.seq (.seq r_foot_PutTypes_2 (.block 0 (.loop b_foot_PutTypes_30))) (.seq r_foot_PutTypes_31 .ret))))
def i_foot_PutTypes : IFunc := ⟨2, [.t 4], c_foot_PutTypes⟩
def a_foot_PutTypes : Advice := ⟨[], [(27, [4]), (26, [5, 19, 20, 21]), (25, [5, 19, 20, 21]), (24, [5, 8, 19, 20, 21, 65, 66, 67]), (23, [5, 8, 19, 20, 21, 65, 66, 67]), (22, [5, 8, 14, 15, 19, 20, 21, 65, 66, 67, 73]), (21, [5, 8, 14, 15, 19, 20, 21, 65, 66, 67]), (20, [5, 8, 19, 20, 21, 65, 66, 67, 68]), (19, [5, 8, 19, 20, 21, 65, 66, 67]), (18, [5, 7, 8, 19, 20, 21, 48, 49, 50]), (17, [5, 7, 8, 19, 20, 21, 48, 49, 50]), (16, [5, 7, 8, 13, 19, 20, 21, 48, 49, 50]), (15, [5, 7, 8, 19, 20, 21, 48, 49, 50, 51]), (14, [5, 7, 8, 19, 20, 21, 48, 49, 50]), (13, [5, 7, 8, 19, 20, 21]), (12, [5, 7, 8, 9, 19, 20, 21, 43]), (11, [5, 7, 8, 9, 19, 20, 21, 30, 31, 32]), (10, [5, 7, 8, 9, 19, 20, 21, 30, 31, 32]), (9, [5, 7, 8, 9, 11, 19, 20, 21, 30, 31, 32]), (8, [5, 7, 8, 9, 19, 20, 21, 30, 31, 32, 33]), (7, [5, 7, 8, 9, 19, 20, 21, 30, 31, 32]), (6, [5, 7, 8, 9, 19, 20, 21]), (5, [5, 7, 8, 19, 20, 21]), (4, [5, 7, 19, 20, 21]), (3, [5, 19, 20, 21, 22]), (2, [5, 19, 20, 21]), (1, [3, 5]), (0, [0, 3])], [], [(4, [7])], [], []⟩
/-! ingot/pb.PutBytes -/
@[go_sem] def r_pb_PutBytes_0_o : Ops := [
oo 6 (.asg (.c .nilS))]
def r_pb_PutBytes_0 := rg r_pb_PutBytes_0_o [0, 1, 2]
@[go_sem] theorem r_pb_PutBytes_0_u : Gr X K s r_pb_PutBytes_0 r_pb_PutBytes_0_o [0, 1, 2] := go_region _ _
@[go_sem] def r_pb_PutBytes_1_o : Ops := [
oo 10 (.mv (.t 0)), oo 11 (.mv (.t 1)), oo 12 (.call false n_pb_head [(.t 10), (.t 11), (ci 2)]), oo 9 (.mv (.t 12)), oo 13 (.ext (.t 9) 0), oo 14 (.ext (.t 9) 1), oo 7 (.asg (.t 13)), oo 8 (.asg (.t 14))]
def r_pb_PutBytes_1 := rg r_pb_PutBytes_1_o [2, 7, 8]
@[go_sem] theorem r_pb_PutBytes_1_u : Gr X K s r_pb_PutBytes_1 r_pb_PutBytes_1_o [2, 7, 8] := go_region _ _
@[go_sem] def r_pb_PutBytes_2_o : Ops := [
oo 15 (.mv (.t 8)), oo 16 (.un .not (.t 15))]
def r_pb_PutBytes_2 := rg r_pb_PutBytes_2_o [2, 7, 16]
@[go_sem] theorem r_pb_PutBytes_2_u : Gr X K s r_pb_PutBytes_2 r_pb_PutBytes_2_o [2, 7, 16] := go_region _ _
@[go_sem] def r_pb_PutBytes_3_o : Ops := [
oo 17 (.mv (.t 7)), oo 6 (.asg (.t 17))]
def r_pb_PutBytes_3 := rg r_pb_PutBytes_3_o [6]
@[go_sem] theorem r_pb_PutBytes_3_u : Gr X K s r_pb_PutBytes_3 r_pb_PutBytes_3_o [6] := go_region _ _
@[go_sem] def r_pb_PutBytes_4_o : Ops := [
oo 18 (.mv (.t 7)), oo 19 (.mv (.t 2)), oo 20 (.len false (.t 19)), oo 21 (.cvInt .u64 (.t 20)), oo 22 (.call true n_nums_PutVar [(.t 18), (.t 21)]), oo 23 (.mv (.t 2)), oo 24 (.append 1 1 (.t 22) (.t 23)), oo 25 (.call false n_slices_Clip_Sbyte_byte [(.t 24)]), oo 6 (.asg (.t 25))]
def r_pb_PutBytes_4 := rg r_pb_PutBytes_4_o [6]
@[go_sem] theorem r_pb_PutBytes_4_u : Gr X K s r_pb_PutBytes_4 r_pb_PutBytes_4_o [6] := go_region _ _
def c_pb_PutBytes : ICode := (.seq r_pb_PutBytes_0 (.seq r_pb_PutBytes_1 (.seq r_pb_PutBytes_2 (.cond (.t 16) (.seq r_pb_PutBytes_3 .ret) (.seq r_pb_PutBytes_4 .ret)))))
def i_pb_PutBytes : IFunc := ⟨3, [.t 6], c_pb_PutBytes⟩
def a_pb_PutBytes : Advice := ⟨[22], [(4, [6]), (3, [6]), (2, [2, 7, 16]), (1, [2, 7, 8]), (0, [0, 1, 2])], [], [], [], []⟩
/-! ingot/nums.PutVar -/
@[go_sem] def r_nums_PutVar_0_o : Ops := [
oo 4 (.asg (.c .nilS))]
def r_nums_PutVar_0 := rg r_nums_PutVar_0_o [0, 1]
@[go_sem] theorem r_nums_PutVar_0_u : Gr X K s r_nums_PutVar_0 r_nums_PutVar_0_o [0, 1] := go_region _ _
@[go_sem] def r_nums_PutVar_1_o : Ops := [
oo 6 (.mv (.t 0)), oo 7 (.call true n_slices_Clone_Sbyte_byte [(.t 6)]), oo 5 (.asg (.t 7))]
def r_nums_PutVar_1 := rg r_nums_PutVar_1_o [1, 5]
@[go_sem] theorem r_nums_PutVar_1_u : Gr X K s r_nums_PutVar_1 r_nums_PutVar_1_o [1, 5] := go_region _ _
@[go_sem] def r_nums_PutVar_2_o : Ops := [
oo 8 (.mv (.t 1)), oo 9 (.bin .geq (.t 8) (.c (.int .u64 128)))]
def r_nums_PutVar_2 := rg r_nums_PutVar_2_o [1, 5, 9]
@[go_sem] theorem r_nums_PutVar_2_u : Gr X K s r_nums_PutVar_2 r_nums_PutVar_2_o [1, 5, 9] := go_region _ _
@[go_sem] def r_nums_PutVar_3_o : Ops := [
oo 10 (.mv (.t 5)), oo 11 (.mv (.t 1)), oo 12 (.cvInt .u8 (.t 11)), oo 13 (.bin .or (.t 12) (.c (.int .u8 128))), oo 14 (.lit false 1 1 (.int .u8 0) [(0, (.t 13))]), oo 15 (.append 1 1 (.t 10) (.t 14)), oo 5 (.asg (.t 15))]
def r_nums_PutVar_3 := rg r_nums_PutVar_3_o [1, 5]
@[go_sem] theorem r_nums_PutVar_3_u : Gr X K s r_nums_PutVar_3 r_nums_PutVar_3_o [1, 5] := go_region _ _
@[go_sem] def r_nums_PutVar_4_o : Ops := [
oo 16 (.mv (.t 1)), oo 17 (.bin .shr (.t 16) (.c (.int .u64 7))), oo 1 (.asg (.t 17))]
def r_nums_PutVar_4 := rg r_nums_PutVar_4_o [1, 5]
@[go_sem] theorem r_nums_PutVar_4_u : Gr X K s r_nums_PutVar_4 r_nums_PutVar_4_o [1, 5] := go_region _ _
def b_nums_PutVar_5 : ICode := (.seq (.seq r_nums_PutVar_2 (.cond (.t 9) .skip (.exit 0))) (.block 1 (.seq r_nums_PutVar_3 r_nums_PutVar_4)))
@[go_sem] theorem b_nums_PutVar_5_u : Gn X K s b_nums_PutVar_5 (.seq (.seq r_nums_PutVar_2 (.cond (.t 9) .skip (.exit 0))) (.block 1 (.seq r_nums_PutVar_3 r_nums_PutVar_4))) := rfl
@[go_sem] def r_nums_PutVar_6_o : Ops := [
oo 18 (.mv (.t 5)), oo 19 (.mv (.t 1)), oo 20 (.cvInt .u8 (.t 19)), oo 21 (.lit false 1 1 (.int .u8 0) [(0, (.t 20))]), oo 22 (.append 1 1 (.t 18) (.t 21)), oo 23 (.call false n_slices_Clip_Sbyte_byte [(.t 22)]), oo 4 (.asg (.t 23))]
def r_nums_PutVar_6 := rg r_nums_PutVar_6_o [4]
@[go_sem] theorem r_nums_PutVar_6_u : Gr X K s r_nums_PutVar_6 r_nums_PutVar_6_o [4] := go_region _ _
def c_nums_PutVar : ICode := (.seq r_nums_PutVar_0 (.seq r_nums_PutVar_1 (.seq (.block 0 (.loop b_nums_PutVar_5)) (.seq r_nums_PutVar_6 .ret))))
def i_nums_PutVar : IFunc := ⟨2, [.t 4], c_nums_PutVar⟩
def a_nums_PutVar : Advice := ⟨[7, 15], [(5, [4]), (4, [1, 5]), (3, [1, 5]), (2, [1, 5, 9]), (1, [1, 5]), (0, [0, 1])], [], [], [], []⟩
/-! slices.Clone[[]byte,byte] -/
@[go_sem] def r_slices_Clone_Sbyte_byte_0_o : Ops := [
oo 2 (.asg (.c .nilS))]
def r_slices_Clone_Sbyte_byte_0 := rg r_slices_Clone_Sbyte_byte_0_o [0]
@[go_sem] theorem r_slices_Clone_Sbyte_byte_0_u : Gr X K s r_slices_Clone_Sbyte_byte_0 r_slices_Clone_Sbyte_byte_0_o [0] := go_region _ _
@[go_sem] def r_slices_Clone_Sbyte_byte_1_o : Ops := [
oo 3 (.mv (.t 0)), oo 4 (.isNil false (.t 3))]
def r_slices_Clone_Sbyte_byte_1 := rg r_slices_Clone_Sbyte_byte_1_o [0, 4]
@[go_sem] theorem r_slices_Clone_Sbyte_byte_1_u : Gr X K s r_slices_Clone_Sbyte_byte_1 r_slices_Clone_Sbyte_byte_1_o [0, 4] := go_region _ _
@[go_sem] def r_slices_Clone_Sbyte_byte_2_o : Ops := [
oo 2 (.asg (.c .nilS))]
def r_slices_Clone_Sbyte_byte_2 := rg r_slices_Clone_Sbyte_byte_2_o [2]
@[go_sem] theorem r_slices_Clone_Sbyte_byte_2_u : Gr X K s r_slices_Clone_Sbyte_byte_2 r_slices_Clone_Sbyte_byte_2_o [2] := go_region _ _
@[go_sem] def r_slices_Clone_Sbyte_byte_3_o : Ops := [
oo 5 (.lit true 1 0 (.int .u8 0) []), oo 6 (.mv (.t 0)), oo 7 (.append 1 1 (.t 5) (.t 6)), oo 2 (.asg (.t 7))]
def r_slices_Clone_Sbyte_byte_3 := rg r_slices_Clone_Sbyte_byte_3_o [2]
@[go_sem] theorem r_slices_Clone_Sbyte_byte_3_u : Gr X K s r_slices_Clone_Sbyte_byte_3 r_slices_Clone_Sbyte_byte_3_o [2] := go_region _ _
def c_slices_Clone_Sbyte_byte : ICode := (.seq r_slices_Clone_Sbyte_byte_0 (.seq r_slices_Clone_Sbyte_byte_1 (.cond (.t 4) (.seq r_slices_Clone_Sbyte_byte_2 .ret) (.seq r_slices_Clone_Sbyte_byte_3 .ret))))
def i_slices_Clone_Sbyte_byte : IFunc := ⟨1, [.t 2], c_slices_Clone_Sbyte_byte⟩
def a_slices_Clone_Sbyte_byte : Advice := ⟨[5], [(3, [2]), (2, [2]), (1, [0, 4]), (0, [0])], [], [], [], []⟩
/-! ingot/pb.head -/
@[go_sem] def r_pb_head_0_o : Ops := [
oo 6 (.asg (.c .nilS)), oo 7 (.asg (.c (.bool false)))]
def r_pb_head_0 := rg r_pb_head_0_o [0, 1, 2]
@[go_sem] theorem r_pb_head_0_u : Gr X K s r_pb_head_0 r_pb_head_0_o [0, 1, 2] := go_region _ _
@[go_sem] def r_pb_head_1_o : Ops := [
oo 8 (.mv (.t 1)), oo 9 (.bin .lss (.t 8) (ci 1)), oo 10 (.mv (.t 9)), og 11 10 false (.mv (.t 1)), og 12 10 false (.bin .gtr (.t 11) (ci 536870911)), oo 13 (.pick (.t 10) (.c (.bool true)) (.t 12))]
def r_pb_head_1 := rg r_pb_head_1_o [0, 1, 2, 13]
@[go_sem] theorem r_pb_head_1_u : Gr X K s r_pb_head_1 r_pb_head_1_o [0, 1, 2, 13] := go_region _ _
@[go_sem] def r_pb_head_2_o : Ops := [
oo 14 (.mv (.t 0)), oo 15 (.call false n_slices_Clone_Sbyte_byte [(.t 14)]), oo 6 (.asg (.t 15)), oo 7 (.asg (.c (.bool false)))]
def r_pb_head_2 := rg r_pb_head_2_o [6, 7]
@[go_sem] theorem r_pb_head_2_u : Gr X K s r_pb_head_2 r_pb_head_2_o [6, 7] := go_region _ _
@[go_sem] def r_pb_head_3_o : Ops := [
oo 16 (.mv (.t 0)), oo 17 (.mv (.t 1)), oo 18 (.cvInt .u64 (.t 17)), oo 19 (.bin .shl (.t 18) (.c (.int .u64 3))), oo 20 (.mv (.t 2)), oo 21 (.cvInt .u64 (.t 20)), oo 22 (.bin .or (.t 19) (.t 21)), oo 23 (.call false n_nums_PutVar [(.t 16), (.t 22)]), oo 6 (.asg (.t 23)), oo 7 (.asg (.c (.bool true)))]
def r_pb_head_3 := rg r_pb_head_3_o [6, 7]
@[go_sem] theorem r_pb_head_3_u : Gr X K s r_pb_head_3 r_pb_head_3_o [6, 7] := go_region _ _
def c_pb_head : ICode := (.seq r_pb_head_0 (.seq r_pb_head_1 (.cond (.t 13) (.seq r_pb_head_2 .ret) (.seq r_pb_head_3 .ret))))
def i_pb_head : IFunc := ⟨3, [.t 6, .t 7], c_pb_head⟩
def a_pb_head : Advice := ⟨[], [(3, [6, 7]), (2, [6, 7]), (1, [0, 1, 2, 13]), (0, [0, 1, 2])], [], [], [], []⟩
/-! ingot/pb.PutUint -/
@[go_sem] def r_pb_PutUint_0_o : Ops := [
oo 6 (.asg (.c .nilS))]
def r_pb_PutUint_0 := rg r_pb_PutUint_0_o [0, 1, 2]
@[go_sem] theorem r_pb_PutUint_0_u : Gr X K s r_pb_PutUint_0 r_pb_PutUint_0_o [0, 1, 2] := go_region _ _
@[go_sem] def r_pb_PutUint_1_o : Ops := [
oo 10 (.mv (.t 0)), oo 11 (.mv (.t 1)), oo 12 (.call false n_pb_head [(.t 10), (.t 11), (ci 0)]), oo 9 (.mv (.t 12)), oo 13 (.ext (.t 9) 0), oo 14 (.ext (.t 9) 1), oo 7 (.asg (.t 13)), oo 8 (.asg (.t 14))]
def r_pb_PutUint_1 := rg r_pb_PutUint_1_o [2, 7, 8]
@[go_sem] theorem r_pb_PutUint_1_u : Gr X K s r_pb_PutUint_1 r_pb_PutUint_1_o [2, 7, 8] := go_region _ _
@[go_sem] def r_pb_PutUint_2_o : Ops := [
oo 15 (.mv (.t 8)), oo 16 (.un .not (.t 15))]
def r_pb_PutUint_2 := rg r_pb_PutUint_2_o [2, 7, 16]
@[go_sem] theorem r_pb_PutUint_2_u : Gr X K s r_pb_PutUint_2 r_pb_PutUint_2_o [2, 7, 16] := go_region _ _
@[go_sem] def r_pb_PutUint_3_o : Ops := [
oo 17 (.mv (.t 7)), oo 6 (.asg (.t 17))]
def r_pb_PutUint_3 := rg r_pb_PutUint_3_o [6]
@[go_sem] theorem r_pb_PutUint_3_u : Gr X K s r_pb_PutUint_3 r_pb_PutUint_3_o [6] := go_region _ _
@[go_sem] def r_pb_PutUint_4_o : Ops := [
oo 18 (.mv (.t 7)), oo 19 (.mv (.t 2)), oo 20 (.call false n_nums_PutVar [(.t 18), (.t 19)]), oo 6 (.asg (.t 20))]
def r_pb_PutUint_4 := rg r_pb_PutUint_4_o [6]
@[go_sem] theorem r_pb_PutUint_4_u : Gr X K s r_pb_PutUint_4 r_pb_PutUint_4_o [6] := go_region _ _
def c_pb_PutUint : ICode := (.seq r_pb_PutUint_0 (.seq r_pb_PutUint_1 (.seq r_pb_PutUint_2 (.cond (.t 16) (.seq r_pb_PutUint_3 .ret) (.seq r_pb_PutUint_4 .ret)))))
def i_pb_PutUint : IFunc := ⟨3, [.t 6], c_pb_PutUint⟩
def a_pb_PutUint : Advice := ⟨[], [(4, [6]), (3, [6]), (2, [2, 7, 16]), (1, [2, 7, 8]), (0, [0, 1, 2])], [], [], [], []⟩
/-! slices.Clone[[]string,string] -/
@[go_sem] def r_slices_Clone_Sstring_string_0_o : Ops := [
oo 2 (.asg (.c .nilS))]
def r_slices_Clone_Sstring_string_0 := rg r_slices_Clone_Sstring_string_0_o [0]
@[go_sem] theorem r_slices_Clone_Sstring_string_0_u : Gr X K s r_slices_Clone_Sstring_string_0 r_slices_Clone_Sstring_string_0_o [0] := go_region _ _
@[go_sem] def r_slices_Clone_Sstring_string_1_o : Ops := [
oo 3 (.mv (.t 0)), oo 4 (.isNil false (.t 3))]
def r_slices_Clone_Sstring_string_1 := rg r_slices_Clone_Sstring_string_1_o [0, 4]
@[go_sem] theorem r_slices_Clone_Sstring_string_1_u : Gr X K s r_slices_Clone_Sstring_string_1 r_slices_Clone_Sstring_string_1_o [0, 4] := go_region _ _
@[go_sem] def r_slices_Clone_Sstring_string_2_o : Ops := [
oo 2 (.asg (.c .nilS))]
def r_slices_Clone_Sstring_string_2 := rg r_slices_Clone_Sstring_string_2_o [2]
@[go_sem] theorem r_slices_Clone_Sstring_string_2_u : Gr X K s r_slices_Clone_Sstring_string_2 r_slices_Clone_Sstring_string_2_o [2] := go_region _ _
@[go_sem] def r_slices_Clone_Sstring_string_3_o : Ops := [
oo 5 (.lit true 1 0 (.str []) []), oo 6 (.mv (.t 0)), oo 7 (.append 1 16 (.t 5) (.t 6)), oo 2 (.asg (.t 7))]
def r_slices_Clone_Sstring_string_3 := rg r_slices_Clone_Sstring_string_3_o [2]
@[go_sem] theorem r_slices_Clone_Sstring_string_3_u : Gr X K s r_slices_Clone_Sstring_string_3 r_slices_Clone_Sstring_string_3_o [2] := go_region _ _
def c_slices_Clone_Sstring_string : ICode := (.seq r_slices_Clone_Sstring_string_0 (.seq r_slices_Clone_Sstring_string_1 (.cond (.t 4) (.seq r_slices_Clone_Sstring_string_2 .ret) (.seq r_slices_Clone_Sstring_string_3 .ret))))
def i_slices_Clone_Sstring_string : IFunc := ⟨1, [.t 2], c_slices_Clone_Sstring_string⟩
def a_slices_Clone_Sstring_string : Advice := ⟨[5], [(3, [2]), (2, [2]), (1, [0, 4]), (0, [0])], [], [], [], []⟩
/-! ingot/types.flatten -/
@[go_sem] def r_types_flatten_0_o : Ops := [
oo 5 (.box 6 (.t 1)), oo 8 (.asg (.c .nilS))]
def r_types_flatten_0 := rg r_types_flatten_0_o [0, 2, 3, 5]
@[go_sem] theorem r_types_flatten_0_u : Gr X K s r_types_flatten_0 r_types_flatten_0_o [0, 2, 3, 5] := go_region _ _
@[go_sem] def r_types_flatten_1_o : Ops := [
oo 13 (.mv (.t 0)), oo 14 (.len false (.t 13)), oo 9 (.asg (.t 14))]
def r_types_flatten_1 := rg r_types_flatten_1_o [0, 2, 3, 5, 9]
@[go_sem] theorem r_types_flatten_1_u : Gr X K s r_types_flatten_1 r_types_flatten_1_o [0, 2, 3, 5, 9] := go_region _ _
@[go_sem] def r_types_flatten_2_o : Ops := [
oo 15 (.mv (.t 0)), oo 16 (.fieldA 0 (.t 5)), oo 17 (.load none (.t 16)), oo 18 (.fieldA 1 (.t 5)), oo 19 (.load none (.t 18)), oo 20 (.call false n_slices_Clone_Sstring_string [(.t 19)]), oo 21 (.call false n_slices_Clip_Sstring_string [(.t 20)]), oo 22 (.fieldA 3 (.t 5)), oo 23 (.load none (.t 22)), oo 24 (.fieldA 4 (.t 5)), oo 25 (.load none (.t 24)), oo 26 (.fieldA 5 (.t 5)), oo 27 (.load none (.t 26)), oo 28 (.mv (.t 2)), oo 29 (.mv (.t 3)), oo 30 (.build [(.int .i64 0), .nilS, .nilS, (.int .i64 0), (.int .i64 0), (.int .i64 0), (.int .i64 0), (.int .i64 0)] [(0, 1, (.t 17)), (1, 1, (.c .nilS)), (2, 1, (.t 21)), (3, 1, (.t 23)), (4, 1, (.t 25)), (5, 1, (.t 27)), (6, 1, (.t 28)), (7, 1, (.t 29))]), oo 31 (.lit false 8 1 (.agg [(.int .i64 0), (.sl []), (.sl []), (.int .i64 0), (.int .i64 0), (.int .i64 0), (.int .i64 0), (.int .i64 0)]) [(0, (.t 30))]), oo 32 (.append 8 96 (.t 15) (.t 31)), oo 0 (.asg (.t 32))]
def r_types_flatten_2_n : List (Nat × Nat) := [(0, 1), (0, 2), (0, 3), (1, 3), (2, 3), (0, 4), (1, 4), (2, 4), (0, 5), (1, 5), (2, 5), (0, 6), (1, 6), (2, 6), (0, 7), (1, 7), (2, 7), (3, 7), (4, 7), (5, 7), (6, 7), (0, 8), (1, 8), (2, 8), (3, 8), (4, 8), (5, 8), (6, 8), (0, 9), (1, 9), (2, 9), (3, 9), (4, 9), (5, 9), (6, 9), (7, 9), (8, 9), (0, 10), (1, 10), (2, 10), (3, 10), (4, 10), (5, 10), (6, 10), (7, 10), (8, 10), (0, 11), (1, 11), (2, 11), (3, 11), (4, 11), (5, 11), (6, 11), (7, 11), (8, 11), (9, 11), (10, 11), (0, 12), (1, 12), (2, 12), (3, 12), (4, 12), (5, 12), (6, 12), (7, 12), (8, 12), (9, 12), (10, 12), (0, 13), (1, 13), (2, 13), (3, 13), (4, 13), (5, 13), (6, 13), (7, 13), (8, 13), (9, 13), (10, 13), (11, 13), (12, 13), (0, 14), (1, 14), (2, 14), (3, 14), (4, 14), (5, 14), (6, 14), (7, 14), (8, 14), (9, 14), (10, 14), (11, 14), (12, 14), (13, 14), (0, 15), (0, 16)]
def r_types_flatten_2 : ICode := .region r_types_flatten_2_o r_types_flatten_2_n [0, 3, 5, 9]
@[go_sem] theorem r_types_flatten_2_u : go X (.c r_types_flatten_2 :: K) s = goRU X [] r_types_flatten_2_n r_types_flatten_2_o [0, 3, 5, 9] K s := go_regionU' _ _ _ _
@[go_sem] def r_types_flatten_3_o : Ops := [
oo 10 (.asg (.c .nilS))]
def r_types_flatten_3 := rg r_types_flatten_3_o [0, 3, 5, 9, 10]
@[go_sem] theorem r_types_flatten_3_u : Gr X K s r_types_flatten_3 r_types_flatten_3_o [0, 3, 5, 9, 10] := go_region _ _
@[go_sem] def r_types_flatten_4_o : Ops := [
oo 33 (.fieldA 2 (.t 5)), oo 34 (.load none (.t 33)), oo 35 (.len false (.t 34)), oo 36 (.mv (ci 0))]
def r_types_flatten_4 := rg r_types_flatten_4_o [0, 3, 9, 10, 34, 35, 36]
@[go_sem] theorem r_types_flatten_4_u : Gr X K s r_types_flatten_4 r_types_flatten_4_o [0, 3, 9, 10, 34, 35, 36] := go_region _ _
@[go_sem] def r_types_flatten_5_o : Ops := [
oo 37 (.bin .lss (.t 36) (.t 35))]
def r_types_flatten_5 := rg r_types_flatten_5_o [0, 3, 9, 10, 34, 35, 36, 37]
@[go_sem] theorem r_types_flatten_5_u : Gr X K s r_types_flatten_5 r_types_flatten_5_o [0, 3, 9, 10, 34, 35, 36, 37] := go_region _ _
@[go_sem] def r_types_flatten_6_o : Ops := [
oo 38 (.idxA 6 (.t 34) (.t 36)), oo 39 (.load (some 6) (.t 38)), oo 12 (.alloc [(.int .i64 0), .nilS, .nilS, (.int .i64 0), (.int .i64 0), (.int .i64 0)]), ow (.store 6 (.t 12) (.t 39))]
def r_types_flatten_6 := rg r_types_flatten_6_o [0, 3, 9, 10, 12, 34, 35, 36]
@[go_sem] theorem r_types_flatten_6_u : Gr X K s r_types_flatten_6 r_types_flatten_6_o [0, 3, 9, 10, 12, 34, 35, 36] := go_region _ _
@[go_sem] def r_types_flatten_7_o : Ops := [
oo 40 (.mv (.t 10)), oo 41 (.mv (.t 0)), oo 42 (.len false (.t 41)), oo 43 (.lit false 1 1 (.int .i64 0) [(0, (.t 42))]), oo 44 (.append 1 8 (.t 40) (.t 43)), oo 10 (.asg (.t 44))]
def r_types_flatten_7 := rg r_types_flatten_7_o [0, 3, 9, 10, 12, 34, 35, 36]
@[go_sem] theorem r_types_flatten_7_u : Gr X K s r_types_flatten_7 r_types_flatten_7_o [0, 3, 9, 10, 12, 34, 35, 36] := go_region _ _
@[go_sem] def r_types_flatten_8_o : Ops := [
oo 45 (.mv (.t 0)), oo 46 (.load (some 6) (.t 12)), oo 47 (.mv (.t 9)), oo 48 (.mv (.t 3)), oo 49 (.bin .add (.t 48) (ci 1)), oo 50 (.callg true n_types_flatten [(.t 45), (.t 46), (.t 47), (.t 49)] 0), oo 0 (.asg (.t 50))]
def r_types_flatten_8 := rg r_types_flatten_8_o [0, 3, 9, 10, 34, 35, 36]
@[go_sem] theorem r_types_flatten_8_u : Gr X K s r_types_flatten_8 r_types_flatten_8_o [0, 3, 9, 10, 34, 35, 36] := go_region _ _
@[go_sem] def r_types_flatten_9_o : Ops := [
oo 51 (.bin .add (.t 36) (ci 1)), oo 36 (.mv (.t 51))]
def r_types_flatten_9 := rg r_types_flatten_9_o [0, 3, 9, 10, 34, 35, 36]
@[go_sem] theorem r_types_flatten_9_u : Gr X K s r_types_flatten_9 r_types_flatten_9_o [0, 3, 9, 10, 34, 35, 36] := go_region _ _
def b_types_flatten_10 : ICode := (.seq r_types_flatten_5 (.seq (.cond (.t 37) .skip (.exit 0)) (.seq (.block 1 (.seq (.seq (.free 12) r_types_flatten_6) (.seq r_types_flatten_7 r_types_flatten_8))) r_types_flatten_9)))
@[go_sem] theorem b_types_flatten_10_u : Gn X K s b_types_flatten_10 (.seq r_types_flatten_5 (.seq (.cond (.t 37) .skip (.exit 0)) (.seq (.block 1 (.seq (.seq (.free 12) r_types_flatten_6) (.seq r_types_flatten_7 r_types_flatten_8))) r_types_flatten_9))) := rfl
@[go_sem] def r_types_flatten_11_o : Ops := [
oo 52 (.mv (.t 0)), oo 53 (.mv (.t 9)), oo 54 (.mv (.t 10)), oo 55 (.call false n_slices_Clip_Sint_int [(.t 54)]), oo 56 (.idxA 8 (.t 52) (.t 53)), oo 57 (.fieldA 1 (.t 56)), ow (.store 1 (.t 57) (.t 55))]
def r_types_flatten_11 := rg r_types_flatten_11_o [0]
@[go_sem] theorem r_types_flatten_11_u : Gr X K s r_types_flatten_11 r_types_flatten_11_o [0] := go_region _ _
@[go_sem] def r_types_flatten_12_o : Ops := [
oo 58 (.mv (.t 0)), oo 8 (.asg (.t 58))]
def r_types_flatten_12 := rg r_types_flatten_12_o [8]
@[go_sem] theorem r_types_flatten_12_u : Gr X K s r_types_flatten_12 r_types_flatten_12_o [8] := go_region _ _
def c_types_flatten : ICode := (.seq r_types_flatten_0 (.seq r_types_flatten_1 (.seq r_types_flatten_2 (.seq r_types_flatten_3 (.seq (.seq r_types_flatten_4 (.block 0 (.loop b_types_flatten_10))) (.seq (.seq (.demote [10]) r_types_flatten_11) (.seq r_types_flatten_12 .ret)))))))
def i_types_flatten : IFunc := ⟨4, [.t 8], c_types_flatten⟩
def a_types_flatten : Advice := ⟨[32, 44, 50], [(11, [8]), (10, [0]), (9, [0, 3, 9, 10, 34, 35, 36]), (8, [0, 3, 9, 10, 34, 35, 36]), (7, [0, 3, 9, 10, 12, 34, 35, 36]), (6, [0, 3, 9, 10, 12, 34, 35, 36]), (5, [0, 3, 9, 10, 34, 35, 36, 37]), (4, [0, 3, 9, 10, 34, 35, 36]), (3, [0, 3, 5, 9, 10]), (2, [0, 3, 5, 9]), (1, [0, 2, 3, 5, 9]), (0, [0, 2, 3, 5])], [(10, [10])], [(6, [12])], [(50, 0)], []⟩
/-! ingot/types.right -/
@[go_sem] def r_types_right_0_o : Ops := [
oo 1 (.box 6 (.t 0)), oo 2 (.asg (.c (.bool false)))]
def r_types_right_0 := rg r_types_right_0_o [1]
@[go_sem] theorem r_types_right_0_u : Gr X K s r_types_right_0 r_types_right_0_o [1] := go_region _ _
@[go_sem] def r_types_right_1_o : Ops := [
oo 3 (.asg (ci 0)), oo 4 (.asg (ci 0)), oo 5 (.asg (ci 0)), oo 6 (.asg (.c (.bool false)))]
def r_types_right_1 := rg r_types_right_1_o [1, 3, 4, 5, 6]
@[go_sem] theorem r_types_right_1_u : Gr X K s r_types_right_1 r_types_right_1_o [1, 3, 4, 5, 6] := go_region _ _
@[go_sem] def r_types_right_2_o : Ops := [
oo 7 (.fieldA 0 (.t 1)), oo 8 (.load none (.t 7))]
def r_types_right_2 := rg r_types_right_2_o [1, 3, 4, 5, 6, 8]
@[go_sem] theorem r_types_right_2_u : Gr X K s r_types_right_2 r_types_right_2_o [1, 3, 4, 5, 6, 8] := go_region _ _
@[go_sem] def r_types_right_3_o : Ops := [
oo 10 (.bin .eql (.t 8) (ci 11)), oo 9 (.asg (.t 10))]
def r_types_right_3 := rg r_types_right_3_o [1, 3, 4, 5, 6, 8, 9]
@[go_sem] theorem r_types_right_3_u : Gr X K s r_types_right_3 r_types_right_3_o [1, 3, 4, 5, 6, 8, 9] := go_region _ _
@[go_sem] def r_types_right_4_o : Ops := [
oo 12 (.bin .eql (.t 8) (ci 10)), oo 11 (.asg (.t 12))]
def r_types_right_4 := rg r_types_right_4_o [1, 3, 4, 5, 6, 8, 11]
@[go_sem] theorem r_types_right_4_u : Gr X K s r_types_right_4 r_types_right_4_o [1, 3, 4, 5, 6, 8, 11] := go_region _ _
@[go_sem] def r_types_right_5_o : Ops := [
oo 14 (.bin .eql (.t 8) (ci 12)), oo 13 (.asg (.t 14))]
def r_types_right_5 := rg r_types_right_5_o [1, 3, 4, 5, 6, 8, 13]
@[go_sem] theorem r_types_right_5_u : Gr X K s r_types_right_5 r_types_right_5_o [1, 3, 4, 5, 6, 8, 13] := go_region _ _
@[go_sem] def r_types_right_6_o : Ops := [
oo 16 (.bin .eql (.t 8) (ci 13)), oo 15 (.asg (.t 16))]
def r_types_right_6 := rg r_types_right_6_o [1, 3, 4, 5, 6, 8, 15]
@[go_sem] theorem r_types_right_6_u : Gr X K s r_types_right_6 r_types_right_6_o [1, 3, 4, 5, 6, 8, 15] := go_region _ _
@[go_sem] def r_types_right_7_o : Ops := [
oo 18 (.bin .eql (.t 8) (ci 16)), oo 17 (.asg (.t 18))]
def r_types_right_7 := rg r_types_right_7_o [1, 3, 4, 5, 6, 8, 17]
@[go_sem] theorem r_types_right_7_u : Gr X K s r_types_right_7 r_types_right_7_o [1, 3, 4, 5, 6, 8, 17] := go_region _ _
@[go_sem] def r_types_right_8_o : Ops := [
oo 19 (.bin .eql (.t 8) (ci 17)), oo 17 (.asg (.t 19))]
def r_types_right_8 := rg r_types_right_8_o [1, 3, 4, 5, 6, 8, 17]
@[go_sem] theorem r_types_right_8_u : Gr X K s r_types_right_8 r_types_right_8_o [1, 3, 4, 5, 6, 8, 17] := go_region _ _
@[go_sem] def r_types_right_9_o : Ops := [
oo 21 (.bin .eql (.t 8) (ci 14)), oo 20 (.asg (.t 21))]
def r_types_right_9 := rg r_types_right_9_o [1, 3, 4, 5, 6, 20]
@[go_sem] theorem r_types_right_9_u : Gr X K s r_types_right_9 r_types_right_9_o [1, 3, 4, 5, 6, 20] := go_region _ _
@[go_sem] def r_types_right_10_o : Ops := [
oo 22 (.mv (.t 3)), oo 23 (.bin .add (.t 22) (ci 1)), oo 3 (.asg (.t 23))]
def r_types_right_10 := rg r_types_right_10_o [1, 3, 4, 5, 6]
@[go_sem] theorem r_types_right_10_u : Gr X K s r_types_right_10 r_types_right_10_o [1, 3, 4, 5, 6] := go_region _ _
@[go_sem] def r_types_right_11_o : Ops := [
oo 24 (.mv (.t 3)), oo 25 (.bin .add (.t 24) (ci 1)), oo 3 (.asg (.t 25))]
def r_types_right_11 := rg r_types_right_11_o [1, 3, 4, 5, 6]
@[go_sem] theorem r_types_right_11_u : Gr X K s r_types_right_11 r_types_right_11_o [1, 3, 4, 5, 6] := go_region _ _
@[go_sem] def r_types_right_12_o : Ops := [
oo 26 (.fieldA 1 (.t 1)), oo 27 (.load none (.t 26)), oo 28 (.len false (.t 27)), oo 29 (.fieldA 1 (.t 1)), oo 30 (.load none (.t 29)), oo 31 (.len false (.t 30)), oo 3 (.asg (.t 28)), oo 4 (.asg (.t 31))]
def r_types_right_12_n : List (Nat × Nat) := [(0, 3), (1, 3), (2, 3), (0, 4), (1, 4), (2, 4), (0, 5), (1, 5), (2, 5), (3, 6), (4, 6), (5, 6)]
def r_types_right_12 : ICode := .region r_types_right_12_o r_types_right_12_n [1, 3, 4, 5, 6]
@[go_sem] theorem r_types_right_12_u : go X (.c r_types_right_12 :: K) s = goRU X [] r_types_right_12_n r_types_right_12_o [1, 3, 4, 5, 6] K s := go_regionU' _ _ _ _
@[go_sem] def r_types_right_13_o : Ops := [
oo 32 (.fieldA 2 (.t 1)), oo 33 (.load none (.t 32)), oo 34 (.len false (.t 33)), oo 3 (.asg (.t 34))]
def r_types_right_13 := rg r_types_right_13_o [1, 3, 4, 5, 6]
@[go_sem] theorem r_types_right_13_u : Gr X K s r_types_right_13 r_types_right_13_o [1, 3, 4, 5, 6] := go_region _ _
@[go_sem] def r_types_right_14_o : Ops := [
oo 35 (.mv (.t 3)), oo 36 (.bin .lss (.t 35) (ci 1)), oo 37 (.mv (.t 36)), og 38 37 false (.mv (.t 3)), og 39 37 false (.bin .gtr (.t 38) (ci 255)), oo 40 (.pick (.t 37) (.c (.bool true)) (.t 39))]
def r_types_right_14 := rg r_types_right_14_o [1, 3, 4, 5, 6, 40]
@[go_sem] theorem r_types_right_14_u : Gr X K s r_types_right_14 r_types_right_14_o [1, 3, 4, 5, 6, 40] := go_region _ _
@[go_sem] def r_types_right_15_o : Ops := [
oo 2 (.asg (.c (.bool false)))]
def r_types_right_15 := rg r_types_right_15_o [2]
@[go_sem] theorem r_types_right_15_u : Gr X K s r_types_right_15 r_types_right_15_o [2] := go_region _ _
@[go_sem] def r_types_right_16_o : Ops := [
oo 41 (.fieldA 3 (.t 1)), oo 42 (.load none (.t 41)), oo 5 (.asg (.t 42))]
def r_types_right_16 := rg r_types_right_16_o [1, 3, 4, 5, 6]
@[go_sem] theorem r_types_right_16_u : Gr X K s r_types_right_16 r_types_right_16_o [1, 3, 4, 5, 6] := go_region _ _
@[go_sem] def r_types_right_17_o : Ops := [
oo 43 (.mv (.t 5)), oo 44 (.bin .lss (.t 43) (ci 1)), oo 45 (.mv (.t 44)), og 46 45 false (.mv (.t 5)), og 47 45 false (.bin .gtr (.t 46) (ci 4096)), oo 48 (.pick (.t 45) (.c (.bool true)) (.t 47))]
def r_types_right_17 := rg r_types_right_17_o [1, 3, 4, 5, 6, 48]
@[go_sem] theorem r_types_right_17_u : Gr X K s r_types_right_17 r_types_right_17_o [1, 3, 4, 5, 6, 48] := go_region _ _
@[go_sem] def r_types_right_18_o : Ops := [
oo 2 (.asg (.c (.bool false)))]
def r_types_right_18 := rg r_types_right_18_o [2]
@[go_sem] theorem r_types_right_18_u : Gr X K s r_types_right_18 r_types_right_18_o [2] := go_region _ _
@[go_sem] def r_types_right_19_o : Ops := [
oo 6 (.asg (.c (.bool true)))]
def r_types_right_19 := rg r_types_right_19_o [1, 3, 4, 5, 6]
@[go_sem] theorem r_types_right_19_u : Gr X K s r_types_right_19 r_types_right_19_o [1, 3, 4, 5, 6] := go_region _ _
@[go_sem] def r_types_right_20_o : Ops := [
oo 49 (.fieldA 2 (.t 1)), oo 50 (.load none (.t 49)), oo 51 (.len false (.t 50)), oo 52 (.mv (.t 3)), oo 53 (.bin .neq (.t 51) (.t 52)), oo 54 (.mv (.t 53)), og 55 54 false (.fieldA 1 (.t 1)), og 56 54 false (.load none (.t 55)), og 57 54 false (.len false (.t 56)), og 58 54 false (.mv (.t 4)), og 59 54 false (.bin .neq (.t 57) (.t 58)), oo 60 (.pick (.t 54) (.c (.bool true)) (.t 59)), oo 61 (.mv (.t 60)), og 62 61 false (.fieldA 3 (.t 1)), og 63 61 false (.load none (.t 62)), og 64 61 false (.mv (.t 5)), og 65 61 false (.bin .neq (.t 63) (.t 64)), oo 66 (.pick (.t 61) (.c (.bool true)) (.t 65)), oo 67 (.mv (.t 66)), og 68 67 false (.fieldA 1 (.t 1)), og 69 67 false (.load none (.t 68)), og 70 67 false (.call false n_types_names [(.t 69)]), og 71 67 false (.un .not (.t 70)), oo 72 (.pick (.t 67) (.c (.bool true)) (.t 71))]
def r_types_right_20 := rg r_types_right_20_o [1, 6, 72]
@[go_sem] theorem r_types_right_20_u : Gr X K s r_types_right_20 r_types_right_20_o [1, 6, 72] := go_region _ _
@[go_sem] def r_types_right_21_o : Ops := [
oo 2 (.asg (.c (.bool false)))]
def r_types_right_21 := rg r_types_right_21_o [2]
@[go_sem] theorem r_types_right_21_u : Gr X K s r_types_right_21 r_types_right_21_o [2] := go_region _ _
@[go_sem] def r_types_right_22_o : Ops := [
oo 73 (.mv (.t 6))]
def r_types_right_22 := rg r_types_right_22_o [1, 73]
@[go_sem] theorem r_types_right_22_u : Gr X K s r_types_right_22 r_types_right_22_o [1, 73] := go_region _ _
@[go_sem] def r_types_right_23_o : Ops := [
oo 74 (.fieldA 4 (.t 1)), oo 75 (.load none (.t 74)), oo 76 (.bin .geq (.t 75) (ci 1)), oo 77 (.mv (.t 76)), og 78 77 true (.fieldA 4 (.t 1)), og 79 77 true (.load none (.t 78)), og 80 77 true (.bin .leq (.t 79) (ci 18)), oo 81 (.pick (.t 77) (.t 80) (.c (.bool false))), oo 82 (.mv (.t 81)), og 83 82 true (.fieldA 5 (.t 1)), og 84 82 true (.load none (.t 83)), og 85 82 true (.bin .geq (.t 84) (ci 0)), oo 86 (.pick (.t 82) (.t 85) (.c (.bool false))), oo 87 (.mv (.t 86)), og 88 87 true (.fieldA 5 (.t 1)), og 89 87 true (.load none (.t 88)), og 90 87 true (.fieldA 4 (.t 1)), og 91 87 true (.load none (.t 90)), og 92 87 true (.bin .leq (.t 89) (.t 91)), oo 93 (.pick (.t 87) (.t 92) (.c (.bool false))), oo 2 (.asg (.t 93))]
def r_types_right_23 := rg r_types_right_23_o [2]
@[go_sem] theorem r_types_right_23_u : Gr X K s r_types_right_23 r_types_right_23_o [2] := go_region _ _
@[go_sem] def r_types_right_24_o : Ops := [
oo 94 (.fieldA 4 (.t 1)), oo 95 (.load none (.t 94)), oo 96 (.bin .eql (.t 95) (ci 0)), oo 97 (.mv (.t 96)), og 98 97 true (.fieldA 5 (.t 1)), og 99 97 true (.load none (.t 98)), og 100 97 true (.bin .eql (.t 99) (ci 0)), oo 101 (.pick (.t 97) (.t 100) (.c (.bool false))), oo 2 (.asg (.t 101))]
def r_types_right_24 := rg r_types_right_24_o [2]
@[go_sem] theorem r_types_right_24_u : Gr X K s r_types_right_24 r_types_right_24_o [2] := go_region _ _
def c_types_right : ICode := (.seq r_types_right_0 (.seq r_types_right_1 (.seq (.seq r_types_right_2 (.block 0 (.seq (.block 6 (.seq (.block 5 (.seq (.block 4 (.seq (.block 3 (.seq (.block 2 (.seq (.block 1 (.seq (.seq (.seq r_types_right_3 (.cond (.t 9) (.exit 1) .skip)) (.seq (.seq r_types_right_4 (.cond (.t 11) (.exit 2) .skip)) (.seq (.seq r_types_right_5 (.cond (.t 13) (.exit 3) .skip)) (.seq (.seq r_types_right_6 (.cond (.t 15) (.exit 4) .skip)) (.seq (.seq (.seq r_types_right_7 (.cond (.t 17) .skip r_types_right_8)) (.cond (.t 17) (.exit 5) .skip)) (.seq r_types_right_9 (.cond (.t 20) (.exit 6) .skip))))))) (.exit 0))) r_types_right_10)) (.seq r_types_right_11 (.exit 0)))) (.seq r_types_right_12 (.exit 0)))) (.seq (.seq r_types_right_13 (.seq r_types_right_14 (.cond (.t 40) (.seq r_types_right_15 .ret) .skip))) (.exit 0)))) (.seq (.seq r_types_right_16 (.seq r_types_right_17 (.cond (.t 48) (.seq r_types_right_18 .ret) .skip))) (.exit 0)))) (.seq r_types_right_19 (.exit 0))))) (.seq r_types_right_20 (.cond (.t 72) (.seq r_types_right_21 .ret) (.seq r_types_right_22 (.cond (.t 73) (.seq r_types_right_23 .ret) (.seq r_types_right_24 .ret))))))))
def i_types_right : IFunc := ⟨1, [.t 2], c_types_right⟩
def a_types_right : Advice := ⟨[], [(24, [2]), (23, [2]), (22, [1, 73]), (21, [2]), (20, [1, 6, 72]), (19, [1, 3, 4, 5, 6]), (18, [2]), (17, [1, 3, 4, 5, 6, 48]), (16, [1, 3, 4, 5, 6]), (15, [2]), (14, [1, 3, 4, 5, 6, 40]), (13, [1, 3, 4, 5, 6]), (12, [1, 3, 4, 5, 6]), (11, [1, 3, 4, 5, 6]), (10, [1, 3, 4, 5, 6]), (9, [1, 3, 4, 5, 6, 20]), (8, [1, 3, 4, 5, 6, 8, 17]), (7, [1, 3, 4, 5, 6, 8, 17]), (6, [1, 3, 4, 5, 6, 8, 15]), (5, [1, 3, 4, 5, 6, 8, 13]), (4, [1, 3, 4, 5, 6, 8, 11]), (3, [1, 3, 4, 5, 6, 8, 9]), (2, [1, 3, 4, 5, 6, 8]), (1, [1, 3, 4, 5, 6]), (0, [1])], [], [], [], []⟩
/-! ingot/types.walk -/
@[go_sem] def r_types_walk_0_o : Ops := [
oo 3 (.box 6 (.t 0)), oo 6 (.asg (ci 0))]
def r_types_walk_0 := rg r_types_walk_0_o [1, 2, 3]
@[go_sem] theorem r_types_walk_0_u : Gr X K s r_types_walk_0 r_types_walk_0_o [1, 2, 3] := go_region _ _
@[go_sem] def r_types_walk_1_o : Ops := [
oo 11 (.mv (.t 1)), oo 12 (.bin .gtr (.t 11) (ci 16)), oo 13 (.mv (.t 12)), og 14 13 false (.mv (.t 2)), og 15 13 false (.nilck (.t 14)), og 16 13 false (.load none (.t 15)), og 17 13 false (.bin .geq (.t 16) (ci 100)), oo 18 (.pick (.t 13) (.c (.bool true)) (.t 17)), oo 10 (.asg (.t 18))]
def r_types_walk_1 := rg r_types_walk_1_o [1, 2, 3, 10]
@[go_sem] theorem r_types_walk_1_u : Gr X K s r_types_walk_1 r_types_walk_1_o [1, 2, 3, 10] := go_region _ _
@[go_sem] def r_types_walk_2_o : Ops := [
oo 6 (.asg (ci 4))]
def r_types_walk_2 := rg r_types_walk_2_o [6]
@[go_sem] theorem r_types_walk_2_u : Gr X K s r_types_walk_2 r_types_walk_2_o [6] := go_region _ _
@[go_sem] def r_types_walk_3_o : Ops := [
oo 20 (.fieldA 0 (.t 3)), oo 21 (.load none (.t 20)), oo 22 (.bin .eql (.t 21) (ci 5)), oo 23 (.mv (.t 22)), og 24 23 false (.fieldA 0 (.t 3)), og 25 23 false (.load none (.t 24)), og 26 23 false (.bin .eql (.t 25) (ci 6)), oo 27 (.pick (.t 23) (.c (.bool true)) (.t 26)), oo 19 (.asg (.t 27))]
def r_types_walk_3 := rg r_types_walk_3_o [1, 2, 3, 19]
@[go_sem] theorem r_types_walk_3_u : Gr X K s r_types_walk_3 r_types_walk_3_o [1, 2, 3, 19] := go_region _ _
@[go_sem] def r_types_walk_4_o : Ops := [
oo 6 (.asg (ci 5))]
def r_types_walk_4 := rg r_types_walk_4_o [6]
@[go_sem] theorem r_types_walk_4_u : Gr X K s r_types_walk_4 r_types_walk_4_o [6] := go_region _ _
@[go_sem] def r_types_walk_5_o : Ops := [
oo 29 (.fieldA 0 (.t 3)), oo 30 (.load none (.t 29)), oo 31 (.bin .lss (.t 30) (ci 0)), oo 32 (.mv (.t 31)), og 33 32 false (.fieldA 0 (.t 3)), og 34 32 false (.load none (.t 33)), og 35 32 false (.bin .gtr (.t 34) (ci 17)), oo 36 (.pick (.t 32) (.c (.bool true)) (.t 35)), oo 37 (.mv (.t 36)), og 38 37 false (.load (some 6) (.t 3)), og 39 37 false (.call false n_types_right [(.t 38)]), og 40 37 false (.un .not (.t 39)), oo 41 (.pick (.t 37) (.c (.bool true)) (.t 40)), oo 28 (.asg (.t 41))]
def r_types_walk_5 := rg r_types_walk_5_o [1, 2, 3, 28]
@[go_sem] theorem r_types_walk_5_u : Gr X K s r_types_walk_5 r_types_walk_5_o [1, 2, 3, 28] := go_region _ _
@[go_sem] def r_types_walk_6_o : Ops := [
oo 6 (.asg (ci 1))]
def r_types_walk_6 := rg r_types_walk_6_o [6]
@[go_sem] theorem r_types_walk_6_u : Gr X K s r_types_walk_6 r_types_walk_6_o [6] := go_region _ _
@[go_sem] def r_types_walk_7_o : Ops := [
oo 42 (.mv (.t 2)), oo 43 (.nilck (.t 42)), oo 44 (.load none (.t 43)), oo 45 (.bin .add (.t 44) (ci 1)), oo 46 (.nilck (.t 42)), ow (.store 1 (.t 46) (.t 45))]
def r_types_walk_7 := rg r_types_walk_7_o [1, 2, 3]
@[go_sem] theorem r_types_walk_7_u : Gr X K s r_types_walk_7 r_types_walk_7_o [1, 2, 3] := go_region _ _
@[go_sem] def r_types_walk_8_o : Ops := [
oo 47 (.fieldA 2 (.t 3)), oo 48 (.load none (.t 47)), oo 49 (.len false (.t 48)), oo 50 (.mv (ci 0))]
def r_types_walk_8 := rg r_types_walk_8_o [1, 2, 48, 49, 50]
@[go_sem] theorem r_types_walk_8_u : Gr X K s r_types_walk_8 r_types_walk_8_o [1, 2, 48, 49, 50] := go_region _ _
@[go_sem] def r_types_walk_9_o : Ops := [
oo 51 (.bin .lss (.t 50) (.t 49))]
def r_types_walk_9 := rg r_types_walk_9_o [1, 2, 48, 49, 50, 51]
@[go_sem] theorem r_types_walk_9_u : Gr X K s r_types_walk_9 r_types_walk_9_o [1, 2, 48, 49, 50, 51] := go_region _ _
@[go_sem] def r_types_walk_10_o : Ops := [
oo 52 (.idxA 6 (.t 48) (.t 50)), oo 53 (.load (some 6) (.t 52)), oo 8 (.alloc [(.int .i64 0), .nilS, .nilS, (.int .i64 0), (.int .i64 0), (.int .i64 0)]), ow (.store 6 (.t 8) (.t 53))]
def r_types_walk_10 := rg r_types_walk_10_o [1, 2, 8, 48, 49, 50]
@[go_sem] theorem r_types_walk_10_u : Gr X K s r_types_walk_10 r_types_walk_10_o [1, 2, 8, 48, 49, 50] := go_region _ _
@[go_sem] def r_types_walk_11_o : Ops := [
oo 54 (.load (some 6) (.t 8)), oo 55 (.mv (.t 1)), oo 56 (.bin .add (.t 55) (ci 1)), oo 57 (.mv (.t 2)), oo 58 (.call false n_types_walk [(.t 54), (.t 56), (.t 57)]), oo 9 (.asg (.t 58))]
def r_types_walk_11 := rg r_types_walk_11_o [1, 2, 9, 48, 49, 50]
@[go_sem] theorem r_types_walk_11_u : Gr X K s r_types_walk_11 r_types_walk_11_o [1, 2, 9, 48, 49, 50] := go_region _ _
@[go_sem] def r_types_walk_12_o : Ops := [
oo 59 (.mv (.t 9)), oo 60 (.bin .neq (.t 59) (ci 0))]
def r_types_walk_12 := rg r_types_walk_12_o [1, 2, 9, 48, 49, 50, 60]
@[go_sem] theorem r_types_walk_12_u : Gr X K s r_types_walk_12 r_types_walk_12_o [1, 2, 9, 48, 49, 50, 60] := go_region _ _
@[go_sem] def r_types_walk_13_o : Ops := [
oo 61 (.mv (.t 9)), oo 6 (.asg (.t 61))]
def r_types_walk_13 := rg r_types_walk_13_o [6]
@[go_sem] theorem r_types_walk_13_u : Gr X K s r_types_walk_13 r_types_walk_13_o [6] := go_region _ _
@[go_sem] def r_types_walk_14_o : Ops := [
oo 62 (.bin .add (.t 50) (ci 1)), oo 50 (.mv (.t 62))]
def r_types_walk_14 := rg r_types_walk_14_o [1, 2, 48, 49, 50]
@[go_sem] theorem r_types_walk_14_u : Gr X K s r_types_walk_14 r_types_walk_14_o [1, 2, 48, 49, 50] := go_region _ _
def b_types_walk_15 : ICode := (.seq r_types_walk_9 (.seq (.cond (.t 51) .skip (.exit 1)) (.seq (.block 2 (.seq (.seq (.free 8) r_types_walk_10) (.seq r_types_walk_11 (.seq r_types_walk_12 (.cond (.t 60) (.seq r_types_walk_13 .ret) .skip))))) r_types_walk_14)))
@[go_sem] theorem b_types_walk_15_u : Gn X K s b_types_walk_15 (.seq r_types_walk_9 (.seq (.cond (.t 51) .skip (.exit 1)) (.seq (.block 2 (.seq (.seq (.free 8) r_types_walk_10) (.seq r_types_walk_11 (.seq r_types_walk_12 (.cond (.t 60) (.seq r_types_walk_13 .ret) .skip))))) r_types_walk_14))) := rfl
@[go_sem] def r_types_walk_16_o : Ops := [
oo 6 (.asg (ci 0))]
def r_types_walk_16 := rg r_types_walk_16_o [6]
@[go_sem] theorem r_types_walk_16_u : Gr X K s r_types_walk_16 r_types_walk_16_o [6] := go_region _ _
def c_types_walk : ICode := (.seq r_types_walk_0 (.seq (.block 0 (.seq r_types_walk_1 (.cond (.t 10) (.seq r_types_walk_2 .ret) (.seq r_types_walk_3 (.cond (.t 19) (.seq r_types_walk_4 .ret) (.seq r_types_walk_5 (.cond (.t 28) (.seq r_types_walk_6 .ret) .skip))))))) (.seq r_types_walk_7 (.seq (.seq r_types_walk_8 (.block 1 (.loop b_types_walk_15))) (.seq r_types_walk_16 .ret)))))
def i_types_walk : IFunc := ⟨3, [.t 6], c_types_walk⟩
def a_types_walk : Advice := ⟨[], [(15, [6]), (14, [1, 2, 48, 49, 50]), (13, [6]), (12, [1, 2, 9, 48, 49, 50, 60]), (11, [1, 2, 9, 48, 49, 50]), (10, [1, 2, 8, 48, 49, 50]), (9, [1, 2, 48, 49, 50, 51]), (8, [1, 2, 48, 49, 50]), (7, [1, 2, 3]), (2, [6]), (4, [6]), (6, [6]), (5, [1, 2, 3, 28]), (3, [1, 2, 3, 19]), (1, [1, 2, 3, 10]), (0, [1, 2, 3])], [], [(10, [8])], [], []⟩
/-! ingot/types.Check -/
@[go_sem] def r_types_Check_0_o : Ops := [
oo 1 (.box 6 (.t 0)), oo 2 (.asg (ci 0))]
def r_types_Check_0 := rg r_types_Check_0_o [1]
@[go_sem] theorem r_types_Check_0_u : Gr X K s r_types_Check_0 r_types_Check_0_o [1] := go_region _ _
@[go_sem] def r_types_Check_1_o : Ops := [
oo 3 (.alloc [(.int .i64 0)]), ow (.store 1 (.t 3) (ci 0))]
def r_types_Check_1 := rg r_types_Check_1_o [1, 3]
@[go_sem] theorem r_types_Check_1_u : Gr X K s r_types_Check_1 r_types_Check_1_o [1, 3] := go_region _ _
@[go_sem] def r_types_Check_2_o : Ops := [
oo 4 (.load (some 6) (.t 1)), oo 5 (.call false n_types_walk [(.t 4), (ci 1), (.t 3)]), oo 2 (.asg (.t 5))]
def r_types_Check_2 := rg r_types_Check_2_o [2]
@[go_sem] theorem r_types_Check_2_u : Gr X K s r_types_Check_2 r_types_Check_2_o [2] := go_region _ _
def c_types_Check : ICode := (.seq r_types_Check_0 (.seq r_types_Check_1 (.seq r_types_Check_2 .ret)))
def i_types_Check : IFunc := ⟨1, [.t 2], c_types_Check⟩
def a_types_Check : Advice := ⟨[], [(2, [2]), (1, [1, 3]), (0, [1])], [], [], [], []⟩
/-! ingot/types.Flatten -/
@[go_sem] def r_types_Flatten_0_o : Ops := [
oo 1 (.box 6 (.t 0)), oo 2 (.asg (.c .nilS))]
def r_types_Flatten_0 := rg r_types_Flatten_0_o [1]
@[go_sem] theorem r_types_Flatten_0_u : Gr X K s r_types_Flatten_0 r_types_Flatten_0_o [1] := go_region _ _
@[go_sem] def r_types_Flatten_1_o : Ops := [
oo 3 (.load (some 6) (.t 1)), oo 4 (.call false n_types_Check [(.t 3)]), oo 5 (.bin .neq (.t 4) (ci 0))]
def r_types_Flatten_1 := rg r_types_Flatten_1_o [1, 5]
@[go_sem] theorem r_types_Flatten_1_u : Gr X K s r_types_Flatten_1 r_types_Flatten_1_o [1, 5] := go_region _ _
@[go_sem] def r_types_Flatten_2_o : Ops := [
oo 2 (.asg (.c .nilS))]
def r_types_Flatten_2 := rg r_types_Flatten_2_o [2]
@[go_sem] theorem r_types_Flatten_2_u : Gr X K s r_types_Flatten_2 r_types_Flatten_2_o [2] := go_region _ _
@[go_sem] def r_types_Flatten_3_o : Ops := [
oo 6 (.load (some 6) (.t 1)), oo 7 (.callg false n_types_flatten [(.c .nilS), (.t 6), (ci (-1)), (ci 1)] 0), oo 8 (.call false n_slices_Clip_Stypes_Node_types_Node [(.t 7)]), oo 2 (.asg (.t 8))]
def r_types_Flatten_3 := rg r_types_Flatten_3_o [2]
@[go_sem] theorem r_types_Flatten_3_u : Gr X K s r_types_Flatten_3 r_types_Flatten_3_o [2] := go_region _ _
def c_types_Flatten : ICode := (.seq r_types_Flatten_0 (.seq r_types_Flatten_1 (.cond (.t 5) (.seq r_types_Flatten_2 .ret) (.seq r_types_Flatten_3 .ret))))
def i_types_Flatten : IFunc := ⟨1, [.t 2], c_types_Flatten⟩
def a_types_Flatten : Advice := ⟨[], [(3, [2]), (2, [2]), (1, [1, 5]), (0, [1])], [], [], [(7, 0)], []⟩
/-! ingot/ingotlaw21.known -/
@[go_sem] def r_ingotlaw21_known_0_o : Ops := [
oo 0 (.asg (.c (.bool false)))]
def r_ingotlaw21_known_0 := rg r_ingotlaw21_known_0_o []
@[go_sem] theorem r_ingotlaw21_known_0_u : Gr X K s r_ingotlaw21_known_0 r_ingotlaw21_known_0_o [] := go_region _ _
@[go_sem] def r_ingotlaw21_known_1_o : Ops := [
oo 10 (.lit false 1 1 (.str []) [(0, (.c (.str [97])))]), oo 11 (.build [(.int .i64 0), .nilS, .nilS, (.int .i64 0), (.int .i64 0), (.int .i64 0)] [(0, 1, (ci 3))]), oo 12 (.lit false 6 1 (.agg [(.int .i64 0), (.sl []), (.sl []), (.int .i64 0), (.int .i64 0), (.int .i64 0)]) [(0, (.t 11))]), oo 13 (.build [(.int .i64 0), .nilS, .nilS, (.int .i64 0), (.int .i64 0), (.int .i64 0)] [(0, 1, (ci 12)), (1, 1, (.t 10)), (2, 1, (.t 12))]), oo 1 (.alloc [(.int .i64 0), .nilS, .nilS, (.int .i64 0), (.int .i64 0), (.int .i64 0)]), ow (.store 6 (.t 1) (.t 13))]
def r_ingotlaw21_known_1 := rg r_ingotlaw21_known_1_o [1]
@[go_sem] theorem r_ingotlaw21_known_1_u : Gr X K s r_ingotlaw21_known_1 r_ingotlaw21_known_1_o [1] := go_region _ _
@[go_sem] def r_ingotlaw21_known_2_o : Ops := [
oo 14 (.load (some 6) (.t 1)), oo 15 (.call false n_types_Flatten [(.t 14)]), oo 2 (.asg (.t 15))]
def r_ingotlaw21_known_2 := rg r_ingotlaw21_known_2_o [1, 2]
@[go_sem] theorem r_ingotlaw21_known_2_u : Gr X K s r_ingotlaw21_known_2 r_ingotlaw21_known_2_o [1, 2] := go_region _ _
@[go_sem] def r_ingotlaw21_known_3_o : Ops := [
oo 16 (.mv (.t 2)), oo 17 (.len false (.t 16)), oo 18 (.bin .neq (.t 17) (ci 2))]
def r_ingotlaw21_known_3 := rg r_ingotlaw21_known_3_o [1, 2, 18]
@[go_sem] theorem r_ingotlaw21_known_3_u : Gr X K s r_ingotlaw21_known_3 r_ingotlaw21_known_3_o [1, 2, 18] := go_region _ _
@[go_sem] def r_ingotlaw21_known_4_o : Ops := [
oo 0 (.asg (.c (.bool false)))]
def r_ingotlaw21_known_4 := rg r_ingotlaw21_known_4_o [0]
@[go_sem] theorem r_ingotlaw21_known_4_u : Gr X K s r_ingotlaw21_known_4 r_ingotlaw21_known_4_o [0] := go_region _ _
@[go_sem] def r_ingotlaw21_known_5_o : Ops := [
oo 19 (.build [(.bool false), (.int .i64 0), (.int .i64 0), .nilS, .nilS] [(1, 1, (ci 5))]), oo 20 (.build [(.bool false), (.int .i64 0), (.int .i64 0), .nilS, .nilS] [(1, 1, (ci 5))]), oo 21 (.build [(.int .i64 0), (.bool false), (.bool false), (.bool false), (.int .i64 0), (.int .i64 0), .nilS, .nilS, (.bool false), (.int .i64 0), (.int .i64 0), .nilS, .nilS, (.bool false), (.int .i64 0)] [(0, 1, (ci 1)), (2, 1, (.c (.bool true))), (3, 5, (.t 19)), (8, 5, (.t 20)), (13, 1, (.c (.bool true))), (14, 1, (ci 5))]), oo 3 (.alloc [(.int .i64 0), (.bool false), (.bool false), (.bool false), (.int .i64 0), (.int .i64 0), .nilS, .nilS, (.bool false), (.int .i64 0), (.int .i64 0), .nilS, .nilS, (.bool false), (.int .i64 0)]), ow (.store 15 (.t 3) (.t 21))]
def r_ingotlaw21_known_5 := rg r_ingotlaw21_known_5_o [1, 2, 3]
@[go_sem] theorem r_ingotlaw21_known_5_u : Gr X K s r_ingotlaw21_known_5 r_ingotlaw21_known_5_o [1, 2, 3] := go_region _ _
@[go_sem] def r_ingotlaw21_known_6_o : Ops := [
oo 23 (.build [(.int .i64 0), (.int .i64 0), (.int .i64 0), (.int .i64 0), (.int .i64 0)] [(0, 1, (ci 3)), (4, 1, (ci 1))]), oo 24 (.lit false 5 1 (.agg [(.int .i64 0), (.int .i64 0), (.int .i64 0), (.int .i64 0), (.int .i64 0)]) [(0, (.t 23))]), oo 25 (.load (some 6) (.t 1)), oo 26 (.lit true 1 1 (.int .u8 0) [(0, (.c (.int .u8 118)))]), oo 27 (.cvB false (.t 26)), oo 28 (.build [(.str []), .nilS] [(0, 1, (.c (.str [107]))), (1, 1, (.t 27))]), oo 29 (.lit false 2 1 (.agg [(.str []), (.sl [])]) [(0, (.t 28))]), oo 30 (.build [(.int .i64 0), (.bool false), (.bool false), (.bool false), (.int .i64 0), (.int .i64 0), .nilS, .nilS, (.bool false), (.int .i64 0), (.int .i64 0), .nilS, .nilS, (.bool false), (.int .i64 0)] [(0, 1, (ci 1))]), oo 31 (.load (some 15) (.t 3)), oo 32 (.lit false 15 2 (.agg [(.int .i64 0), (.bool false), (.bool false), (.bool false), (.int .i64 0), (.int .i64 0), (.sl []), (.sl []), (.bool false), (.int .i64 0), (.int .i64 0), (.sl []), (.sl []), (.bool false), (.int .i64 0)]) [(0, (.t 30)), (1, (.t 31))]), oo 33 (.build [(.int .i64 0), .nilS, (.int .i64 0), .nilS, .nilS, (.int .i64 0), (.int .i64 0), (.int .i64 0), .nilS, (.int .i64 0), .nilS, (.int .i64 0)] [(0, 1, (ci 7)), (1, 1, (.t 24)), (2, 6, (.t 25)), (8, 1, (.t 29)), (9, 1, (ci 1)), (10, 1, (.t 32)), (11, 1, (ci 10))]), oo 34 (.call false n_foot_Encode [(.t 33)]), oo 22 (.mv (.t 34)), oo 35 (.ext (.t 22) 0), oo 36 (.ext (.t 22) 1), oo 4 (.asg (.t 35)), oo 5 (.asg (.t 36))]
def r_ingotlaw21_known_6 := rg r_ingotlaw21_known_6_o [1, 2, 3, 4, 5]
@[go_sem] theorem r_ingotlaw21_known_6_u : Gr X K s r_ingotlaw21_known_6 r_ingotlaw21_known_6_o [1, 2, 3, 4, 5] := go_region _ _
@[go_sem] def r_ingotlaw21_known_7_o : Ops := [
oo 38 (.mv (.t 4)), oo 39 (.call false n_foot_Decode [(.t 38)]), oo 37 (.mv (.t 39)), oo 40 (.ext (.t 37) 0), oo 41 (.ext (.t 37) 1), oo 6 (.alloc [(.int .i64 0), .nilS, (.int .i64 0), .nilS, .nilS, (.int .i64 0), (.int .i64 0), (.int .i64 0), .nilS, (.int .i64 0), .nilS, (.int .i64 0)]), ow (.store 12 (.t 6) (.t 40)), oo 7 (.asg (.t 41))]
def r_ingotlaw21_known_7 := rg r_ingotlaw21_known_7_o [1, 2, 3, 5, 6, 7]
@[go_sem] theorem r_ingotlaw21_known_7_u : Gr X K s r_ingotlaw21_known_7 r_ingotlaw21_known_7_o [1, 2, 3, 5, 6, 7] := go_region _ _
@[go_sem] def r_ingotlaw21_known_8_o : Ops := [
oo 43 (.mv (.t 2)), oo 44 (.idxA 8 (.t 43) (ci 1)), oo 45 (.load (some 8) (.t 44)), oo 46 (.mv (.t 2)), oo 47 (.idxA 8 (.t 46) (ci 1)), oo 48 (.load (some 8) (.t 47)), oo 49 (.load (some 15) (.t 3)), oo 50 (.call false n_foot_PutStats [(.t 48), (.t 49)]), oo 51 (.call false n_foot_ReadStats [(.t 45), (.t 50)]), oo 42 (.mv (.t 51)), oo 52 (.ext (.t 42) 0), oo 53 (.ext (.t 42) 1), oo 8 (.alloc [(.int .i64 0), (.bool false), (.bool false), (.bool false), (.int .i64 0), (.int .i64 0), .nilS, .nilS, (.bool false), (.int .i64 0), (.int .i64 0), .nilS, .nilS, (.bool false), (.int .i64 0)]), ow (.store 15 (.t 8) (.t 52)), oo 9 (.asg (.t 53))]
def r_ingotlaw21_known_8_n : List (Nat × Nat) := [(0, 3), (1, 3), (2, 3), (0, 4), (1, 4), (2, 4), (0, 5), (1, 5), (2, 5), (0, 6), (1, 6), (2, 6), (3, 6), (4, 6), (5, 6), (0, 7), (1, 7), (2, 7), (10, 11), (0, 12), (1, 12), (2, 12), (3, 12), (4, 12), (5, 12), (6, 12), (7, 12), (8, 12), (9, 12), (10, 12), (11, 12), (11, 13)]
def r_ingotlaw21_known_8 : ICode := .region r_ingotlaw21_known_8_o r_ingotlaw21_known_8_n [1, 3, 5, 6, 7, 8, 9]
@[go_sem] theorem r_ingotlaw21_known_8_u : go X (.c r_ingotlaw21_known_8 :: K) s = goRU X [] r_ingotlaw21_known_8_n r_ingotlaw21_known_8_o [1, 3, 5, 6, 7, 8, 9] K s := go_regionU' _ _ _ _
@[go_sem] def r_ingotlaw21_known_9_o : Ops := [
oo 54 (.mv (.t 5)), oo 55 (.mv (.t 7)), oo 56 (.bin .add (.t 54) (.t 55)), oo 57 (.mv (.t 9)), oo 58 (.bin .add (.t 56) (.t 57)), oo 59 (.bin .eql (.t 58) (ci 0)), oo 60 (.mv (.t 59)), og 61 60 true (.fieldA 0 (.t 6)), og 62 60 true (.load none (.t 61)), og 63 60 true (.bin .eql (.t 62) (ci 7)), oo 64 (.pick (.t 60) (.t 63) (.c (.bool false))), oo 65 (.mv (.t 64)), og 66 65 true (.fieldA 1 (.t 6)), og 67 65 true (.load none (.t 66)), og 68 65 true (.len false (.t 67)), og 69 65 true (.bin .eql (.t 68) (ci 1)), oo 70 (.pick (.t 65) (.t 69) (.c (.bool false))), oo 71 (.mv (.t 70)), og 72 71 true (.fieldA 1 (.t 6)), og 73 71 true (.load none (.t 72)), og 74 71 true (.idxA 5 (.t 73) (ci 0)), og 75 71 true (.fieldA 0 (.t 74)), og 76 71 true (.load none (.t 75)), og 77 71 true (.bin .eql (.t 76) (ci 3)), oo 78 (.pick (.t 71) (.t 77) (.c (.bool false))), oo 79 (.mv (.t 78)), og 80 79 true (.fieldA 2 (.t 6)), og 81 79 true (.load (some 6) (.t 80)), og 82 79 true (.load (some 6) (.t 1)), og 83 79 true (.call false n_ingotref13_Same [(.t 81), (.t 82)]), oo 84 (.pick (.t 79) (.t 83) (.c (.bool false))), oo 85 (.mv (.t 84)), og 86 85 true (.fieldA 8 (.t 6)), og 87 85 true (.load none (.t 86)), og 88 85 true (.len false (.t 87)), og 89 85 true (.bin .eql (.t 88) (ci 1)), oo 90 (.pick (.t 85) (.t 89) (.c (.bool false))), oo 91 (.mv (.t 90)), og 92 91 true (.fieldA 9 (.t 6)), og 93 91 true (.load none (.t 92)), og 94 91 true (.bin .eql (.t 93) (ci 1)), oo 95 (.pick (.t 91) (.t 94) (.c (.bool false))), oo 96 (.mv (.t 95)), og 97 96 true (.fieldA 10 (.t 6)), og 98 96 true (.load none (.t 97)), og 99 96 true (.len false (.t 98)), og 100 96 true (.bin .eql (.t 99) (ci 2)), oo 101 (.pick (.t 96) (.t 100) (.c (.bool false))), oo 102 (.mv (.t 101)), og 103 102 true (.fieldA 10 (.t 6)), og 104 102 true (.load none (.t 103)), og 105 102 true (.idxA 15 (.t 104) (ci 1)), og 106 102 true (.fieldA 8 (.t 105)), og 107 102 true (.fieldA 1 (.t 106)), og 108 102 true (.load none (.t 107)), og 109 102 true (.bin .eql (.t 108) (ci 5)), oo 110 (.pick (.t 102) (.t 109) (.c (.bool false))), oo 111 (.mv (.t 110)), og 112 111 true (.fieldA 11 (.t 6)), og 113 111 true (.load none (.t 112)), og 114 111 true (.bin .eql (.t 113) (ci 10)), oo 115 (.pick (.t 111) (.t 114) (.c (.bool false))), oo 116 (.mv (.t 115)), og 117 116 true (.load (some 15) (.t 8)), og 118 116 true (.load (some 15) (.t 3)), og 119 116 true (.call false n_stat_Same [(.t 117), (.t 118)]), oo 120 (.pick (.t 116) (.t 119) (.c (.bool false))), oo 0 (.asg (.t 120))]
def r_ingotlaw21_known_9 := rg r_ingotlaw21_known_9_o [0]
@[go_sem] theorem r_ingotlaw21_known_9_u : Gr X K s r_ingotlaw21_known_9 r_ingotlaw21_known_9_o [0] := go_region _ _
def c_ingotlaw21_known : ICode := (.seq r_ingotlaw21_known_0 (.seq r_ingotlaw21_known_1 (.seq r_ingotlaw21_known_2 (.seq r_ingotlaw21_known_3 (.cond (.t 18) (.seq r_ingotlaw21_known_4 .ret) (.seq r_ingotlaw21_known_5 (.seq r_ingotlaw21_known_6 (.seq r_ingotlaw21_known_7 (.seq r_ingotlaw21_known_8 (.seq r_ingotlaw21_known_9 .ret))))))))))
def i_ingotlaw21_known : IFunc := ⟨0, [.t 0], c_ingotlaw21_known⟩
def a_ingotlaw21_known : Advice := ⟨[26], [(9, [0]), (8, [1, 3, 5, 6, 7, 8, 9]), (7, [1, 2, 3, 5, 6, 7]), (6, [1, 2, 3, 4, 5]), (5, [1, 2, 3]), (4, [0]), (3, [1, 2, 18]), (2, [1, 2]), (1, [1]), (0, [])], [], [], [], []⟩
/-! the tables -/
def tbl : List (FuncId × IFunc) := [(n_ingotref13_Flatten, i_ingotref13_Flatten), (n_ingotref21_PutTypes, i_ingotref21_PutTypes), (n_ingotlaw21_FootTypes, i_ingotlaw21_FootTypes), (n_ingotref3_PutBytes, i_ingotref3_PutBytes), (n_ingotref1_PutVar, i_ingotref1_PutVar), (n_ingotref3_may, i_ingotref3_may), (n_ingotref3_PutUint, i_ingotref3_PutUint), (n_ingotref13_own, i_ingotref13_own), (n_ingotref13_check, i_ingotref13_check), (n_ingotref13_Check, i_ingotref13_Check), (n_ingotlaw13_few, i_ingotlaw13_few), (n_ingotlaw13_Few, i_ingotlaw13_Few), (n_foot_PutTypes, i_foot_PutTypes), (n_pb_PutBytes, i_pb_PutBytes), (n_nums_PutVar, i_nums_PutVar), (n_slices_Clone_Sbyte_byte, i_slices_Clone_Sbyte_byte), (n_pb_head, i_pb_head), (n_pb_PutUint, i_pb_PutUint), (n_slices_Clone_Sstring_string, i_slices_Clone_Sstring_string), (n_types_flatten, i_types_flatten), (n_types_right, i_types_right), (n_types_walk, i_types_walk), (n_types_Check, i_types_Check), (n_types_Flatten, i_types_Flatten), (n_ingotlaw21_known, i_ingotlaw21_known)]
def clips : List FuncId := [124, 123, 166, 165, 130, 120, 83, 85, 34, 81, 79]
noncomputable def tab : List AF := [⟨7, Tryz.f7, ⟨[19, 22, 30, 37, 40, 44, 47], [(20, [6]), (17, [2, 9, 11]), (19, [6]), (18, [2, 9, 11, 109]), (16, [2, 9, 11, 86]), (15, [2, 9, 11]), (14, [6]), (13, [2, 9, 82]), (12, [1, 2, 9, 10]), (11, [1, 2, 7]), (10, [1, 2, 7]), (8, [1, 2, 7, 8]), (9, [1, 2, 7, 8]), (7, [1, 2, 7, 8, 26]), (6, [1, 2, 7, 8]), (5, [1, 2, 7]), (4, [6]), (3, [0, 1, 2, 16]), (2, [6]), (1, [0, 1, 2, 13]), (0, [0, 1, 2])], [(12, [7])], [], [(19, 0), (22, 0), (30, 0), (36, 0), (37, 0), (40, 0), (44, 0), (47, 0)], []⟩⟩,
⟨28, Tryz.f28, ⟨[], [(20, [4]), (15, [2, 3, 7]), (19, [4]), (18, [2, 3, 7, 184]), (17, [2, 3, 7, 8, 9]), (16, [2, 3, 7, 8]), (14, [2, 3, 7, 123]), (13, [2, 3, 7]), (10, [2, 3, 6]), (12, [4]), (11, [2, 3, 6, 118]), (9, [2, 3, 6, 86]), (8, [2, 3, 6]), (5, [2, 3, 5]), (7, [4]), (6, [2, 3, 5, 81]), (4, [2, 3, 5, 68]), (3, [2, 3, 5]), (2, [4]), (1, [2, 3, 63]), (0, [2, 3])], [], [(16, [8]), (17, [9])], [], []⟩⟩,
⟨74, Tryz.f74, ⟨[], [(1, [2]), (0, [0])], [], [], [], []⟩⟩,
⟨25, Tryz.f25, ⟨[98, 102, 137, 140, 144, 160, 168, 173, 193, 198], [(36, [2, 3]), (35, [2, 3]), (34, [8, 201]), (33, [8]), (31, [1, 4, 8, 14]), (32, [1, 4, 8, 14]), (30, [1, 4, 8, 14, 178]), (29, [1, 4, 8, 14]), (28, [1, 4, 8]), (26, [1, 4, 8, 13]), (27, [1, 4, 8, 13]), (25, [1, 4, 8, 13, 149]), (24, [1, 4, 8, 13]), (23, [1, 4, 8]), (15, [1, 4, 8, 9]), (22, [1, 4, 8, 9]), (20, [1, 4, 8, 9, 10, 11, 12]), (21, [1, 4, 8, 9, 10, 11, 12]), (19, [1, 4, 8, 9, 10, 11, 12, 116]), (18, [1, 4, 8, 9, 10, 11, 12]), (17, [1, 4, 8, 9, 10, 11]), (16, [1, 4, 8, 9, 10]), (14, [1, 4, 8, 9, 107]), (13, [1, 4, 8, 9]), (12, [1, 4, 8]), (11, [2, 3]), (10, [1, 4, 97]), (7, [1, 4, 5, 6]), (9, [1, 4, 5, 6]), (8, [1, 4, 6, 7]), (6, [1, 4, 5, 6, 65]), (5, [1, 4, 5, 6]), (4, [1, 4, 5]), (3, [1, 4]), (2, [2, 3]), (1, [1, 18]), (0, [1])], [], [(8, [7]), (16, [10])], [(98, 0), (102, 0), (137, 0), (140, 0), (144, 0), (160, 0), (167, 0), (168, 0), (173, 0), (193, 0), (198, 0)], []⟩⟩,
⟨24, Tryz.f24, ⟨[44, 62], [(11, [2]), (9, [1, 2, 3, 6]), (10, [1, 2, 3, 6]), (8, [1, 2, 3, 6, 50]), (7, [1, 2, 3, 6]), (4, [1, 2, 3, 4]), (6, [1, 2, 3, 4]), (5, [1, 2, 3, 4, 5]), (3, [1, 2, 3, 4, 22]), (2, [1, 2, 3, 4]), (1, [1, 2, 3]), (0, [1, 2])], [], [(5, [5])], [], []⟩⟩,
⟨6, Tryz.f6, ⟨[60, 81, 84, 87, 92], [(17, [8]), (16, [9, 15, 16]), (15, [9, 14]), (14, [1, 2, 9, 12, 14]), (13, [8]), (12, [1, 2, 3, 9, 12, 13, 76]), (11, [1, 2, 3, 4, 9, 10, 12, 13]), (9, [1, 2, 3, 4, 9, 10, 11]), (10, [1, 2, 3, 4, 9, 10, 11]), (8, [1, 2, 3, 4, 9, 10, 11, 47]), (7, [1, 2, 3, 4, 9, 10, 11]), (6, [1, 2, 3, 4, 9, 10]), (5, [1, 2, 3, 4, 9]), (4, [8]), (3, [1, 2, 3, 4, 39]), (2, [8]), (1, [1, 2, 3, 4, 18]), (0, [1, 2, 3, 4])], [(16, [14])], [], [(81, 0), (84, 0), (91, 0)], []⟩⟩,
⟨5, Tryz.f5, ⟨[], [(24, [2]), (20, [0, 3, 8, 10]), (23, [0, 3, 8, 10]), (22, [2]), (21, [0, 3, 8, 10, 108]), (19, [0, 3, 8, 10, 78]), (18, [0, 3, 8, 10]), (17, [2]), (16, [0, 3, 8, 74]), (15, [0, 3, 7, 8, 9]), (14, [2]), (13, [0, 3, 6, 7, 50]), (12, [0, 3, 6, 7]), (11, [0, 3, 5]), (8, [0, 3, 4]), (10, [2]), (9, [0, 3, 4, 37]), (7, [0, 3, 4, 19]), (6, [0, 3, 4]), (5, [0, 3]), (4, [2]), (3, [0, 15]), (2, [2]), (1, [0, 12]), (0, [0])], [], [], [], []⟩⟩,
⟨62, Tryz.f62, ⟨[], [(8, [4]), (7, [4]), (6, [5, 32]), (5, [0, 5]), (4, [0, 1, 5, 16]), (3, [0, 1, 5]), (2, [0, 1, 5, 12]), (1, [0, 1, 5]), (0, [0, 1])], [], [], [], []⟩⟩,
⟨116, Tryz.f116, ⟨[], [(3, [2]), (2, [2]), (1, [0, 4]), (0, [0])], [], [], [], []⟩⟩,
⟨60, Tryz.f60, ⟨[11], [(1, [6]), (0, [0, 1, 2])], [], [], [(11, 0)], []⟩⟩,
⟨18, Tryz.f18, ⟨[12, 23, 27, 33, 44, 48, 54, 66, 81, 89, 99, 110, 114, 124, 135, 139, 145, 150, 164, 169], [(44, [4]), (43, [5, 8]), (42, [5, 8, 166]), (41, [3, 5, 8]), (40, [3, 5]), (39, [3, 5, 6, 7, 160]), (9, [3, 5, 6, 7]), (8, [3, 5, 6, 7, 29]), (7, [3, 5, 6, 7]), (6, [3, 5, 6, 7, 18]), (5, [3, 5, 6, 7]), (15, [3, 5, 6, 7]), (14, [3, 5, 6, 7, 50]), (13, [3, 5, 6, 7]), (12, [3, 5, 6, 7, 39]), (11, [3, 5, 6, 7]), (19, [3, 5, 6, 7]), (18, [3, 5, 6, 7, 60]), (17, [3, 5, 6, 7]), (25, [3, 5, 6, 7]), (24, [2, 3, 5, 6, 7, 91]), (23, [2, 3, 5, 6, 7]), (22, [2, 3, 5, 6, 7, 72]), (21, [2, 3, 5, 6, 7]), (29, [3, 5, 6, 7]), (28, [3, 5, 6, 7, 105]), (27, [3, 5, 6, 7]), (33, [3, 5, 6, 7]), (32, [3, 5, 6, 7, 120]), (31, [3, 5, 6, 7]), (38, [3, 5, 6, 7]), (37, [3, 5, 6, 7]), (36, [3, 5, 6, 7, 130]), (35, [3, 5, 6, 7]), (34, [3, 5, 6, 7, 125]), (30, [2, 3, 5, 6, 7, 115]), (26, [2, 3, 5, 6, 7, 100]), (20, [2, 3, 5, 6, 7, 67]), (16, [2, 3, 5, 6, 7, 55]), (10, [2, 3, 5, 6, 7, 34]), (4, [2, 3, 5, 6, 7, 13]), (3, [2, 3, 5, 6, 7]), (2, [2, 3, 5, 6]), (1, [2, 3, 5]), (0, [2, 3])], [(40, [6])], [], [(12, 0), (23, 0), (27, 0), (33, 0), (44, 0), (48, 0), (54, 0), (65, 0), (66, 0), (81, 0), (89, 0), (99, 0), (110, 0), (114, 0), (124, 0), (135, 0), (139, 0), (145, 0), (150, 0), (164, 0), (169, 0)], []⟩⟩,
⟨55, Tryz.f55, ⟨[], [(1, [2]), (0, [0])], [], [], [], []⟩⟩,
⟨16, Tryz.f16, ⟨[], [(6, [4]), (5, [2, 3, 5]), (4, [4]), (3, [2, 3, 55]), (2, [4]), (1, [2, 3, 52]), (0, [2, 3])], [], [], [], []⟩⟩,
⟨54, Tryz.f54, ⟨[], [(8, [4]), (5, [2, 3, 5]), (7, [4]), (6, [2, 3, 5, 61]), (4, [2, 3, 5, 47]), (3, [2, 3, 5]), (2, [4]), (1, [2, 3, 42]), (0, [2, 3])], [], [], [], []⟩⟩,
⟨14, Tryz.f14, ⟨[], [(1, [4]), (0, [2, 3])], [], [], [], []⟩⟩,
⟨15, Tryz.f15, ⟨[], [(1, [2]), (0, [1, 2])], [], [], [], []⟩⟩,
⟨106, Tryz.f106, ⟨[], [(8, [6]), (3, [6]), (5, [6]), (7, [6]), (6, [2, 3, 4, 6, 23]), (4, [2, 3, 4, 6, 8, 15]), (2, [2, 3, 4, 6, 8, 9]), (1, [2, 3, 4, 6, 8]), (0, [2, 3, 4, 6])], [], [], [], []⟩⟩,
⟨105, Tryz.f105, ⟨[], [(7, [2]), (4, [0, 3, 4]), (6, [0, 3, 4]), (5, [0, 3, 4, 16]), (3, [0, 3, 4, 8]), (2, [0, 3, 4]), (1, [0, 3]), (0, [0])], [], [], [], []⟩⟩,
⟨56, Tryz.f56, ⟨[], [(1, [2]), (0, [0])], [], [], [], []⟩⟩,
⟨140, Tryz.f140, ⟨[], [(1, [4]), (0, [0, 1])], [], [], [], []⟩⟩,
⟨117, Tryz.f117, ⟨[], [(5, [2]), (4, [0, 3]), (3, [0, 3]), (2, [0, 3, 11]), (1, [0, 3]), (0, [0])], [], [], [], []⟩⟩,
⟨118, Tryz.f118, ⟨[], [(3, [2]), (2, [2]), (1, [0, 4]), (0, [0])], [], [], [], []⟩⟩,
⟨139, Tryz.f139, ⟨[], [(1, [2]), (0, [0])], [], [], [], []⟩⟩,
⟨104, Tryz.f104, ⟨[], [(21, [6]), (5, [6]), (7, [6]), (9, [6]), (12, [6]), (14, [6]), (16, [6]), (18, [6]), (20, [6]), (19, [1, 3, 63]), (17, [1, 2, 3, 15, 58]), (15, [1, 2, 3, 15, 51]), (13, [1, 2, 3, 15, 49]), (11, [1, 2, 3, 15, 40]), (10, [1, 2, 3, 15, 40]), (8, [1, 2, 3, 15, 32]), (6, [1, 2, 3, 15, 24]), (4, [1, 2, 3, 15, 16]), (3, [1, 2, 3, 15]), (2, [6]), (1, [1, 2, 3, 13]), (0, [1, 2, 3])], [], [], [], []⟩⟩,
⟨53, Tryz.f53, ⟨[], [(33, [4]), (27, [2, 3, 5, 6]), (32, [4]), (31, [2, 3, 5, 6, 7, 141]), (30, [2, 3, 5, 6, 7]), (29, [4]), (28, [2, 3, 5, 6, 129]), (26, [2, 3, 5, 6, 111]), (25, [2, 3, 5, 6]), (13, [4]), (12, [2, 3, 5, 90]), (18, [4]), (17, [2, 3, 5, 97]), (16, [4]), (15, [2, 3, 5, 95]), (21, [4]), (20, [2, 3, 5, 104]), (24, [4]), (23, [2, 3, 5, 108]), (22, [2, 3, 5, 105]), (19, [2, 3, 5, 86, 98]), (14, [2, 3, 5, 86, 91]), (11, [2, 3, 5, 86, 87]), (10, [2, 3, 5, 86]), (9, [2, 3, 5]), (8, [4]), (7, [2, 3, 81]), (6, [4]), (5, [2, 3, 59]), (4, [4]), (3, [4]), (2, [29]), (1, [2, 3, 9]), (0, [2, 3])], [], [], [], []⟩⟩,
⟨103, Tryz.f103, ⟨[], [(3, [4, 5]), (2, [4, 5]), (1, [0, 1, 23]), (0, [0, 1])], [], [], [], []⟩⟩,
⟨138, Tryz.f138, ⟨[], [(3, [2]), (2, [2]), (1, [0, 4]), (0, [0])], [], [], [], []⟩⟩,
⟨102, Tryz.f102, ⟨[], [(8, [4, 5]), (7, [4, 5]), (6, [0, 1, 28]), (5, [0, 1, 6, 7, 8]), (4, [0, 1, 6, 7, 8, 17]), (3, [0, 1, 6, 7, 8]), (2, [0, 1, 6, 7]), (1, [0, 1, 6]), (0, [0, 1])], [], [], [], []⟩⟩,
⟨52, Tryz.f52, ⟨[], [(37, [4, 5]), (25, [0, 1, 6, 8, 11, 12]), (36, [0, 1, 6, 8, 11, 12]), (35, [4, 5]), (34, [0, 1, 6, 8, 12, 16, 114]), (33, [0, 1, 6, 8, 12, 15, 16, 17]), (32, [0, 1, 6, 8, 12, 13, 14, 15]), (31, [0, 1, 6, 8, 12, 13, 14, 15, 100]), (30, [0, 1, 6, 8, 12, 13, 14, 15]), (29, [0, 1, 6, 8, 11, 12, 13]), (28, [0, 1, 6, 8, 11, 12, 89]), (27, [0, 1, 6, 8, 11, 12, 13, 85]), (26, [0, 1, 6, 8, 11, 12, 13]), (24, [0, 1, 6, 8, 11, 12, 79]), (23, [0, 1, 6, 8, 11, 12]), (22, [0, 1, 6, 8, 11]), (21, [4, 5]), (20, [0, 1, 6, 8, 71]), (19, [4, 5]), (18, [0, 1, 6, 8, 68]), (10, [0, 1, 6, 7, 8, 9, 10]), (13, [0, 1, 6, 7, 8, 9, 10]), (15, [4, 5]), (17, [0, 1, 6, 7, 8, 9, 10]), (11, [0, 1, 6, 7, 8, 9, 10]), (16, [0, 1, 6, 7, 8, 9, 10, 56]), (14, [0, 1, 6, 7, 8, 9, 10, 45]), (12, [0, 1, 6, 7, 8, 9, 10, 36]), (9, [0, 1, 6, 7, 8, 9, 10, 31]), (8, [0, 1, 6, 7, 8, 9, 10]), (7, [0, 1, 6, 7, 8, 9]), (6, [0, 1, 6, 7, 8]), (5, [0, 1, 6, 7]), (4, [0, 1, 6]), (3, [0, 1, 6]), (2, [0, 1, 6, 25]), (1, [0, 1, 6]), (0, [0, 1])], [], [], [], []⟩⟩,
⟨51, Tryz.f51, ⟨[38, 72], [(15, [4, 5]), (4, [0, 1, 6, 7]), (14, [0, 1, 6, 7, 8]), (13, [0, 1, 6, 7, 8, 10]), (12, [4, 5]), (11, [0, 1, 6, 7, 8, 9, 10, 11, 67]), (10, [0, 1, 6, 7, 8, 9, 10, 11]), (9, [0, 1, 6, 7, 8, 54]), (8, [0, 1, 6, 7, 8]), (7, [0, 1, 6, 7]), (6, [0, 1, 6, 7, 30]), (5, [0, 1, 6, 7, 24]), (3, [0, 1, 6, 7, 15]), (2, [0, 1, 6, 7]), (1, [0, 1, 6]), (0, [0, 1])], [], [], [], []⟩⟩,
⟨100, Tryz.f100, ⟨[], [(4, [2]), (3, [2]), (2, [3, 9]), (1, [0, 3]), (0, [0])], [], [], [], []⟩⟩,
⟨49, Tryz.f49, ⟨[], [(2, [4, 5]), (1, [6, 7]), (0, [0, 1])], [], [], [], []⟩⟩,
⟨48, Tryz.f48, ⟨[], [(3, [2, 3, 4, 5]), (2, [6, 7, 8, 9]), (1, [0, 6, 7]), (0, [0])], [], [], [], []⟩⟩,
⟨50, Tryz.f50, ⟨[], [(9, [4, 5]), (5, [0, 1, 6, 7, 8]), (8, [0, 1, 6, 7, 8]), (7, [0, 1, 6, 8]), (6, [0, 1, 6, 7, 8, 29]), (4, [0, 1, 6, 7, 8, 12]), (3, [0, 1, 6, 7, 8]), (2, [0, 1, 6, 7]), (1, [0, 1, 6]), (0, [0, 1])], [], [], [], []⟩⟩,
⟨47, Tryz.f47, ⟨[], [(5, [4, 5, 6]), (4, [9, 10]), (3, [4, 5, 6]), (2, [7, 18]), (1, [7, 8]), (0, [0, 1])], [], [], [], []⟩⟩,
⟨99, Tryz.f99, ⟨[], [(1, [2]), (0, [0])], [], [], [], []⟩⟩,
⟨46, Tryz.f46, ⟨[], [(1, [2]), (0, [0])], [], [], [], []⟩⟩,
⟨45, Tryz.f45, ⟨[], [(1, [2]), (0, [0])], [], [], [], []⟩⟩,
⟨44, Tryz.f44, ⟨[], [(9, [4, 5]), (5, [0, 1, 6, 7, 8]), (8, [0, 1, 6, 7, 8]), (7, [0, 1, 6, 8]), (6, [0, 1, 6, 7, 8, 29]), (4, [0, 1, 6, 7, 8, 12]), (3, [0, 1, 6, 7, 8]), (2, [0, 1, 6, 7]), (1, [0, 1, 6]), (0, [0, 1])], [], [], [], []⟩⟩,
⟨101, Tryz.f101, ⟨[], [(15, [4, 5, 6]), (6, [0, 1, 7, 8]), (14, [4, 5, 6]), (13, [0, 1, 7, 8, 50]), (12, [0, 1, 7, 8, 9]), (11, [4, 5, 6]), (10, [0, 1, 7, 8, 9, 39]), (9, [0, 1, 7, 8, 9]), (8, [4, 5, 6]), (7, [0, 1, 7, 8, 27]), (5, [0, 1, 7, 8, 19]), (4, [0, 1, 7, 8]), (3, [0, 1, 7]), (2, [4, 5, 6]), (1, [0, 1, 17]), (0, [0, 1])], [], [], [], []⟩⟩,
⟨98, Tryz.f98, ⟨[98], [(36, [4, 5, 6]), (34, [0, 1, 4, 10, 11, 18]), (35, [0, 1, 4, 10, 11, 18]), (33, [0, 1, 4, 10, 11, 18, 125]), (32, [0, 1, 4, 10, 11, 18]), (31, [4, 5, 6]), (30, [0, 1, 4, 10, 11, 120]), (16, [4, 5, 6]), (15, [1, 4, 10, 13]), (14, [4, 5, 6]), (13, [1, 4, 10, 12, 13, 14, 63]), (12, [1, 4, 10, 12, 13, 14]), (18, [0, 1, 4, 10, 11]), (27, [4, 5, 6]), (26, [1, 4, 10, 15]), (25, [4, 5, 6]), (24, [0, 1, 4, 10, 15, 96]), (23, [0, 1, 4, 10, 15]), (22, [4, 5, 6]), (21, [0, 1, 4, 10, 15, 16, 17, 84]), (20, [0, 1, 4, 10, 15, 16, 17]), (29, [0, 1, 4, 10, 11]), (10, [4, 5, 6]), (28, [0, 1, 4, 10, 113]), (19, [0, 1, 4, 10, 51, 74]), (17, [0, 1, 4, 10, 51, 72]), (11, [0, 1, 4, 10, 51, 53]), (9, [0, 1, 4, 10, 51]), (8, [0, 1, 4, 10]), (7, [0, 1, 4, 10]), (6, [4, 5, 6]), (5, [0, 1, 4, 8, 10, 45]), (4, [0, 1, 4, 7, 8, 10]), (3, [4, 5, 6]), (2, [0, 1, 4, 7, 8, 9, 27]), (1, [0, 1, 4, 7, 8, 9]), (0, [0, 1, 4])], [], [], [], []⟩⟩,
⟨43, Tryz.f43, ⟨[32], [(13, [2, 3]), (12, [0, 4, 5]), (11, [0, 4, 7]), (10, [2, 3]), (9, [0, 4, 6, 7, 8, 27]), (8, [0, 4, 6, 7, 8]), (7, [2, 3]), (6, [0, 4, 5, 18]), (5, [0, 4, 5, 15]), (4, [0, 4, 5]), (3, [0, 4]), (2, [2, 3]), (1, [0, 11]), (0, [0])], [], [(8, [6])], [], []⟩⟩,
⟨13, Tryz.f13, ⟨[], [(88, [4, 5]), (87, [4, 13]), (86, [4, 13, 362]), (85, [4, 5]), (84, [4, 6, 13, 358]), (38, [2, 4, 6, 13, 18]), (37, [2, 4, 6, 13, 15, 18, 132]), (36, [2, 4, 6, 13, 14, 15, 18]), (46, [2, 4, 6, 13, 18]), (45, [2, 4, 6, 13, 15, 18]), (44, [2, 4, 6, 13, 15, 20, 22]), (43, [2, 4, 6, 13, 15, 20, 22]), (42, [2, 4, 6, 13, 15, 20, 21, 22]), (41, [2, 4, 6, 13, 15, 19, 20, 21, 22]), (40, [2, 4, 6, 13, 15, 19, 20]), (55, [2, 4, 6, 13, 18]), (54, [2, 4, 6, 13, 18]), (53, [2, 4, 6, 13, 18, 23, 198]), (52, [4, 5]), (51, [2, 4, 6, 13, 18, 23, 194]), (50, [4, 5]), (49, [2, 4, 6, 13, 18, 23, 24, 178]), (48, [2, 4, 6, 13, 18, 23, 24]), (74, [2, 4, 6, 13, 18]), (73, [2, 4, 6, 13, 18, 31]), (72, [2, 4, 6, 13, 18, 31, 37]), (71, [2, 4, 6, 13, 18, 31, 36, 37]), (70, [2, 4, 6, 13, 18, 29, 31, 258]), (69, [2, 4, 6, 13, 18, 29, 30, 31]), (68, [2, 4, 6, 13, 18, 29, 30, 33, 35]), (67, [2, 4, 6, 13, 18, 29, 30, 33, 34, 35]), (66, [2, 4, 6, 13, 18, 29, 30, 32, 33, 34, 35]), (65, [2, 4, 6, 13, 18, 27, 29, 30, 32, 33]), (64, [2, 4, 6, 13, 18, 25, 27, 29, 30, 31, 232]), (63, [2, 4, 6, 13, 18, 25, 26, 27, 28, 29, 30, 31]), (62, [2, 4, 6, 13, 18, 25, 26, 27, 28, 29, 30]), (61, [2, 4, 6, 13, 25, 26, 27, 28, 29, 30]), (60, [2, 4, 6, 13, 25, 26, 27, 28, 29, 30]), (59, [2, 4, 6, 13, 25, 26, 27, 28, 29, 30]), (58, [2, 4, 6, 13, 15, 25, 26, 27, 28]), (57, [2, 4, 6, 13, 15, 25, 26]), (76, [2, 4, 6, 13, 18]), (83, [2, 4, 6, 13, 18]), (82, [2, 4, 6, 13, 18, 40]), (81, [2, 4, 6, 13, 18, 38, 40]), (80, [2, 4, 6, 13, 18, 38, 39, 40, 41]), (79, [2, 4, 6, 13, 15, 38, 39, 40, 41]), (78, [2, 4, 6, 13, 15, 38, 39]), (77, [2, 4, 6, 13, 15, 18, 286]), (75, [2, 4, 6, 13, 15, 18, 115, 277]), (56, [2, 4, 6, 13, 15, 18, 115, 205]), (47, [2, 4, 6, 13, 15, 18, 115, 170]), (39, [2, 4, 6, 13, 15, 18, 115, 140]), (35, [2, 4, 6, 13, 14, 15, 18, 115, 116]), (34, [2, 4, 6, 13, 14, 15, 18, 115, 116]), (33, [2, 4, 6, 13, 14, 15, 18, 115]), (32, [2, 4, 6, 13, 14, 15, 18]), (31, [4, 5]), (30, [2, 4, 6, 13, 14, 15, 113]), (29, [4, 5]), (28, [2, 4, 6, 13, 14, 15, 16, 17, 109]), (27, [2, 4, 6, 13, 14, 15, 16, 17]), (26, [4, 5]), (25, [2, 4, 6, 7, 13, 14, 99]), (12, [2, 4, 6, 7, 13, 14]), (14, [2, 4, 6, 7, 13, 14]), (16, [2, 4, 6, 7, 13, 14]), (18, [2, 4, 6, 7, 13, 14]), (20, [2, 4, 6, 7, 13, 14]), (22, [2, 4, 6, 7, 13, 14]), (24, [2, 4, 6, 7, 13, 14]), (23, [2, 4, 6, 7, 13, 14, 94]), (21, [2, 4, 6, 7, 13, 14, 90]), (19, [2, 4, 6, 7, 13, 14, 86]), (17, [2, 4, 6, 7, 13, 14, 82]), (15, [2, 4, 6, 7, 13, 14, 78]), (13, [2, 4, 6, 7, 13, 14, 74]), (11, [2, 4, 6, 7, 13, 14, 70]), (10, [2, 4, 6, 7, 13, 14]), (9, [2, 4, 6, 7, 13]), (8, [2, 4, 6, 7, 9, 11]), (7, [4, 5]), (6, [2, 4, 6, 7, 9, 58]), (5, [2, 4, 6, 7, 9]), (4, [4, 5]), (3, [2, 4, 6, 7, 8, 49]), (2, [2, 4, 6, 7, 8]), (1, [1, 2, 4, 6]), (0, [1, 2, 4])], [], [], [], []⟩⟩,
⟨125, Tryz.f125, ⟨[], [(1, [4]), (0, [0, 1])], [], [], [], []⟩⟩,
⟨76, Tryz.f76, ⟨[], [(1, [4]), (0, [2, 3])], [], [], [], []⟩⟩,
⟨30, Tryz.f30, ⟨[], [(1, [4]), (0, [2, 3])], [], [], [], []⟩⟩,
⟨29, Tryz.f29, ⟨[], [(13, [4]), (10, [2, 3, 6]), (12, [4]), (11, [2, 3, 6, 87]), (9, [2, 3, 6, 73]), (8, [2, 3, 6]), (5, [2, 3, 5]), (7, [4]), (6, [2, 3, 5, 68]), (4, [2, 3, 5, 55]), (3, [2, 3, 5]), (2, [4]), (1, [2, 3, 50]), (0, [2, 3])], [], [], [], []⟩⟩,
⟨97, Tryz.f97, ⟨[], [(12, [6, 7]), (11, [6, 7]), (10, [2, 3, 6, 36]), (3, [2, 3, 6]), (5, [2, 3, 6]), (9, [2, 3, 6]), (8, [6, 7]), (7, [3, 4, 6, 28]), (6, [2, 3, 4, 6, 16]), (4, [2, 3, 4, 6, 9, 12]), (2, [2, 3, 4, 6, 9, 10]), (1, [2, 3, 4, 6, 9]), (0, [2, 3, 4, 6])], [], [], [], []⟩⟩,
⟨96, Tryz.f96, ⟨[], [(14, [4]), (13, [4]), (12, [38]), (11, [6]), (10, [6]), (9, [4]), (8, [6, 29]), (7, [5, 6]), (6, [5, 6, 18]), (5, [2, 5, 6, 11, 16]), (4, [2, 5, 6, 11, 14]), (3, [2, 5, 6, 11, 12]), (2, [2, 5, 6, 11]), (1, [2, 5, 6]), (0, [2, 3])], [], [], [], []⟩⟩,
⟨137, Tryz.f137, ⟨[], [(8, [2]), (7, [3, 6, 7, 8]), (6, [3, 6, 7, 8]), (5, [3, 6, 7, 8, 14]), (4, [3, 5, 6, 7, 8]), (3, [3, 6, 7, 8, 9]), (2, [3, 6, 7, 8]), (1, [0, 3]), (0, [0])], [], [], [], []⟩⟩,
⟨95, Tryz.f95, ⟨[], [(9, [4]), (8, [4]), (7, [4]), (6, [3, 18]), (5, [3, 10]), (4, [3, 6, 10]), (3, [2, 3, 6, 7]), (2, [2, 3, 6, 7]), (1, [2, 3, 6]), (0, [2, 3])], [], [], [], []⟩⟩,
⟨136, Tryz.f136, ⟨[], [(1, [4]), (0, [0, 1])], [], [], [], []⟩⟩,
⟨135, Tryz.f135, ⟨[], [(12, [2]), (11, [3, 4]), (10, [3, 4]), (9, [3, 4, 22]), (8, [3, 4]), (7, [3, 4]), (6, [3, 4]), (5, [3, 4]), (4, [3, 4, 10]), (3, [3, 4, 7]), (2, [3, 4]), (1, [0, 3]), (0, [0])], [], [], [], []⟩⟩,
⟨134, Tryz.f134, ⟨[], [(1, [4]), (0, [0, 1])], [], [], [], []⟩⟩,
⟨94, Tryz.f94, ⟨[], [(19, [4]), (3, [4]), (5, [4]), (7, [4]), (10, [4]), (12, [4]), (14, [4]), (16, [4]), (18, [4]), (17, [2, 3, 50]), (15, [2, 3, 6, 43]), (13, [2, 3, 6, 35]), (11, [2, 3, 6, 33]), (9, [2, 3, 6, 27]), (8, [2, 3, 6, 27]), (6, [2, 3, 6, 22]), (4, [2, 3, 6, 17]), (2, [2, 3, 6, 7]), (1, [2, 3, 6]), (0, [2, 3])], [], [], [], []⟩⟩,
⟨133, Tryz.f133, ⟨[], [(7, [2]), (6, [2]), (5, [7]), (4, [3, 7]), (3, [3, 4]), (2, [3, 4]), (1, [3]), (0, [0])], [], [], [], []⟩⟩,
⟨132, Tryz.f132, ⟨[], [(7, [2]), (6, [2]), (5, [7]), (4, [3, 7]), (3, [3, 4]), (2, [3, 4]), (1, [3]), (0, [0])], [], [], [], []⟩⟩,
⟨93, Tryz.f93, ⟨[], [(3, [4]), (2, [4]), (1, [2, 3, 6]), (0, [2, 3])], [], [], [], []⟩⟩,
⟨41, Tryz.f41, ⟨[], [(20, [4]), (19, [2, 3, 41, 42, 43]), (18, [4]), (17, [2, 3, 10, 41, 42, 43, 75]), (16, [2, 3, 10, 41, 42, 43]), (15, [4]), (14, [2, 3, 7, 8, 41, 42, 43, 70]), (13, [2, 3, 6, 7, 8, 9, 41, 42, 43]), (12, [2, 3, 6, 7, 41, 42, 43]), (11, [2, 3, 41, 42, 43, 44]), (10, [2, 3, 41, 42, 43]), (9, [4]), (8, [2, 3, 5, 38]), (7, [2, 3, 5]), (2, [4]), (4, [4]), (6, [4]), (5, [2, 3, 30]), (3, [2, 3, 27]), (1, [2, 3, 11]), (0, [2, 3])], [], [(12, [7]), (13, [8])], [], []⟩⟩,
⟨42, Tryz.f42, ⟨[], [(1, [2]), (0, [1, 2])], [], [], [], []⟩⟩,
⟨92, Tryz.f92, ⟨[], [(3, [6]), (2, [7]), (1, [0, 2, 7, 8]), (0, [0, 1, 2])], [], [], [], []⟩⟩,
⟨156, Tryz.f156, ⟨[], [(4, [4, 5]), (3, [4, 5]), (2, [6, 19]), (1, [0, 1, 6]), (0, [0, 1])], [], [], [], []⟩⟩,
⟨171, Tryz.f171, ⟨[], [(3, [2]), (2, [2]), (1, [0, 4]), (0, [0])], [], [], [], []⟩⟩,
⟨155, Tryz.f155, ⟨[], [(9, [4, 5]), (6, [4, 5]), (8, [4, 5]), (7, [7, 43]), (5, [7, 8, 28]), (4, [6, 7, 8]), (3, [0, 1, 6, 7]), (2, [4, 5]), (1, [0, 1, 14]), (0, [0, 1])], [], [], [], []⟩⟩,
⟨154, Tryz.f154, ⟨[], [(1, [2]), (0, [0])], [], [], [], []⟩⟩,
⟨168, Tryz.f168, ⟨[], [(4, [4, 5, 6]), (3, [4, 5, 6]), (2, [0, 1, 7, 12]), (1, [0, 1, 7]), (0, [0, 1])], [], [], [], []⟩⟩,
⟨153, Tryz.f153, ⟨[], [(1, [4, 5, 6]), (0, [0, 1])], [], [], [], []⟩⟩,
⟨177, Tryz.f177, ⟨[], [(1, [4]), (0, [0, 1])], [], [], [], []⟩⟩,
⟨167, Tryz.f167, ⟨[], [(3, [4, 5]), (2, [4, 5]), (1, [0, 1, 9]), (0, [0, 1])], [], [], [], []⟩⟩,
⟨152, Tryz.f152, ⟨[], [(1, [4, 5]), (0, [0, 1])], [], [], [], []⟩⟩,
⟨131, Tryz.f131, ⟨[], [(21, [4, 5]), (20, [7, 11, 59, 60, 61]), (19, [7, 11, 59, 60, 61]), (18, [4, 5]), (17, [7, 17, 59, 60, 61, 87]), (16, [7, 16, 17, 18, 59, 60, 61]), (15, [7, 14, 15, 16, 59, 60, 61]), (14, [7, 11, 14, 59, 60, 61]), (13, [7, 11, 14, 59, 60, 61, 68]), (12, [7, 11, 14, 59, 60, 61]), (11, [7, 11, 13, 59, 60, 61]), (10, [7, 11, 59, 60, 61, 62]), (9, [7, 11, 59, 60, 61]), (8, [1, 7, 8, 9, 11]), (5, [4, 5]), (7, [4, 5]), (6, [1, 7, 8, 9, 45]), (4, [1, 7, 8, 9, 33]), (3, [1, 7, 8, 9, 10]), (2, [1, 6, 7]), (1, [0, 1]), (0, [0, 1])], [], [], [], []⟩⟩,
⟨91, Tryz.f91, ⟨[], [(6, [4, 5]), (5, [8]), (4, [0, 8, 9]), (3, [4, 5]), (2, [0, 6, 20]), (1, [0, 6, 7]), (0, [0, 1])], [], [], [], []⟩⟩,
⟨88, Tryz.f88, ⟨[], [(4, [4, 5, 6]), (3, [4, 5, 7]), (2, [0, 4, 5, 7, 8]), (1, [0, 1, 4, 7]), (0, [0, 1])], [], [], [], []⟩⟩,
⟨89, Tryz.f89, ⟨[], [(1, [4, 5]), (0, [0, 1])], [], [], [], []⟩⟩,
⟨87, Tryz.f87, ⟨[], [(4, [4, 5, 6]), (3, [4, 5, 7]), (2, [0, 4, 5, 7, 8]), (1, [0, 1, 4, 7]), (0, [0, 1])], [], [], [], []⟩⟩,
⟨151, Tryz.f151, ⟨[], [(1, [2]), (0, [0])], [], [], [], []⟩⟩,
⟨129, Tryz.f129, ⟨[], [(2, [4, 5]), (1, [6, 7]), (0, [0, 1])], [], [], [], []⟩⟩,
⟨86, Tryz.f86, ⟨[], [(1, [4, 5]), (0, [0, 1])], [], [], [], []⟩⟩,
⟨40, Tryz.f40, ⟨[], [(25, [4]), (24, []), (23, [0, 1]), (22, []), (21, []), (20, [0, 1]), (19, []), (18, [1, 5]), (17, [0, 1, 5, 106]), (16, [0, 1, 5]), (15, [4]), (14, [0, 1, 5, 6, 96]), (13, [0, 1, 5, 6]), (12, []), (11, [0, 1]), (10, []), (9, [0, 1]), (8, [0, 1, 25]), (7, [0, 1, 12, 23]), (6, [0, 1, 12, 21]), (5, [0, 1, 12, 19]), (4, [0, 1, 12, 17]), (3, [0, 1, 12, 15]), (2, [0, 1, 12, 13]), (1, [0, 1, 12]), (0, [0, 1])], [], [], [], []⟩⟩,
⟨12, Tryz.f12, ⟨[], [(24, [4, 5]), (23, [4, 12]), (22, [4, 12, 110]), (21, [4, 5]), (20, [4, 12, 106]), (19, [4, 5]), (18, [2, 4, 12, 16, 17, 79]), (17, [2, 4, 12, 16, 17]), (16, [4, 5]), (15, [2, 4, 7, 12, 16, 73]), (14, [2, 4, 7, 12, 16]), (13, [2, 4, 12, 14, 16]), (12, [4, 5]), (11, [2, 4, 12, 14, 59]), (10, [2, 4, 12, 13, 14, 15]), (9, [2, 4, 6, 12, 13]), (8, [2, 4, 6, 12]), (7, [4, 5]), (6, [2, 4, 6, 8, 10, 38]), (5, [2, 4, 6, 8, 10]), (4, [2, 4, 6, 8]), (3, [4, 5]), (2, [2, 4, 6, 7, 24]), (1, [2, 4, 6, 7]), (0, [1, 2, 4])], [], [], [], []⟩⟩,
⟨72, Tryz.f72, ⟨[46], [(12, [4, 5]), (11, [1, 6, 24, 25, 26]), (10, [1, 6, 24, 25, 26]), (9, [4, 5]), (8, [1, 6, 9, 10, 24, 25, 26, 41]), (7, [1, 6, 9, 10, 24, 25, 26]), (6, [1, 6, 7, 8, 24, 25, 26]), (5, [1, 6, 24, 25, 26, 27]), (4, [1, 6, 24, 25, 26]), (3, [1, 2, 6]), (2, [4, 5]), (1, [1, 2, 22]), (0, [1, 2])], [], [(7, [9])], [], []⟩⟩,
⟨39, Tryz.f39, ⟨[], [(2, [4, 5]), (1, [6, 7]), (0, [0, 1])], [], [], [], []⟩⟩,
⟨71, Tryz.f71, ⟨[40], [(11, [2, 3]), (10, [4, 18, 19, 20]), (9, [4, 18, 19, 20]), (8, [4, 7, 9, 18, 19, 20]), (7, [4, 6, 7, 18, 19, 20]), (6, [4, 6, 18, 19, 20]), (5, [4, 18, 19, 20, 21]), (4, [4, 18, 19, 20]), (3, [1, 4]), (2, [2, 3]), (1, [1, 15]), (0, [1])], [], [], [], []⟩⟩,
⟨148, Tryz.f148, ⟨[73, 78], [(17, [6, 7]), (16, [6, 9]), (15, [0, 1, 2, 6, 9, 46, 47, 48]), (14, [0, 1, 2, 6, 9, 46, 47, 48]), (13, [6, 7]), (12, [0, 1, 2, 6, 9, 12, 46, 47, 48, 67]), (11, [0, 1, 2, 6, 9, 12, 13, 46, 47, 48]), (10, [6, 7]), (9, [0, 1, 2, 6, 9, 46, 47, 48, 56]), (8, [0, 1, 2, 6, 9, 11, 46, 47, 48]), (7, [0, 1, 2, 6, 9, 46, 47, 48, 49]), (6, [0, 1, 2, 6, 9, 46, 47, 48]), (5, [0, 1, 2, 6, 8, 9]), (4, [0, 1, 2, 6, 8]), (3, [0, 1, 2, 6, 8]), (2, [6, 7]), (1, [0, 1, 2, 6, 19]), (0, [0, 1, 2, 6])], [], [(11, [12])], [], []⟩⟩,
⟨122, Tryz.f122, ⟨[], [(8, [2, 3]), (7, [2, 3]), (6, [2, 5, 7, 25]), (5, [2, 5, 7]), (4, [2, 3]), (3, [2, 5, 20]), (2, [0, 2, 4, 5, 6]), (1, [0, 2, 4]), (0, [0, 2])], [], [], [], []⟩⟩,
⟨147, Tryz.f147, ⟨[29], [(8, [4]), (7, [1, 5, 8, 9, 10]), (6, [1, 5, 8, 9, 10]), (5, [1, 5, 7, 8, 9, 10, 22]), (4, [1, 5, 7, 8, 9, 10]), (3, [1, 5, 8, 9, 10, 11]), (2, [1, 5, 8, 9, 10]), (1, [0, 1, 5]), (0, [0, 1])], [], [(4, [7])], [], []⟩⟩,
⟨90, Tryz.f90, ⟨[32, 56], [(17, [4, 5]), (16, [1, 6, 13, 14, 15]), (7, [1, 6, 13, 14, 15]), (15, [1, 6, 8, 9, 13, 14, 15]), (14, [1, 6, 8, 9, 11, 13, 14, 15]), (13, [4, 5]), (12, [1, 6, 8, 9, 10, 11, 12, 13, 14, 15, 51]), (11, [1, 6, 8, 9, 10, 11, 12, 13, 14, 15]), (10, [1, 6, 8, 9, 13, 14, 15, 41]), (9, [1, 6, 8, 9, 13, 14, 15]), (8, [1, 6, 8, 13, 14, 15, 33]), (6, [1, 6, 8, 13, 14, 15, 24]), (5, [1, 6, 8, 13, 14, 15, 19]), (4, [1, 6, 8, 13, 14, 15]), (3, [1, 6, 13, 14, 15, 16]), (2, [1, 6, 13, 14, 15]), (1, [0, 1, 6]), (0, [0, 1])], [], [(4, [8])], [], []⟩⟩,
⟨121, Tryz.f121, ⟨[46, 61], [(28, [2, 3]), (27, [0, 2, 4, 67, 68, 69]), (26, [2, 3]), (25, [0, 2, 4, 67, 68, 69, 84]), (24, [0, 2, 4, 5, 67, 68, 69]), (23, [0, 2, 4, 12, 13, 67, 68, 69]), (22, [0, 2, 4, 67, 68, 69, 70]), (21, [0, 2, 4, 67, 68, 69]), (20, [0, 2, 4, 50, 51, 52]), (19, [0, 2, 4, 50, 51, 52]), (18, [0, 2, 4, 11, 50, 51, 52]), (17, [0, 2, 4, 50, 51, 52, 53]), (16, [0, 2, 4, 50, 51, 52]), (15, [0, 2, 4, 32, 33, 34]), (14, [0, 2, 4, 32, 33, 34]), (13, [2, 3]), (12, [0, 2, 4, 9, 32, 33, 34, 39]), (11, [0, 2, 4, 9, 32, 33, 34]), (10, [0, 2, 4, 32, 33, 34, 35]), (9, [0, 2, 4, 32, 33, 34]), (8, [2, 3]), (7, [0, 2, 4, 6, 7, 29]), (6, [0, 2, 4, 6, 7]), (5, [2, 3]), (4, [0, 2, 4, 21]), (3, [0, 2, 4, 5]), (2, [0, 2, 4]), (1, [0, 2, 4]), (0, [0, 2])], [], [], [], []⟩⟩,
⟨70, Tryz.f70, ⟨[29], [(12, [2, 3]), (11, [2, 3]), (10, [2, 4, 33]), (9, [2, 4, 11, 12, 13]), (8, [2, 4, 11, 12, 13]), (7, [2, 3]), (6, [2, 4, 7, 8, 11, 12, 13, 23]), (5, [2, 4, 7, 8, 11, 12, 13]), (4, [2, 4, 6, 11, 12, 13]), (3, [2, 4, 11, 12, 13, 14]), (2, [2, 4, 11, 12, 13]), (1, [1, 2, 4]), (0, [1, 2])], [(12, [4])], [(5, [7])], [], []⟩⟩,
⟨69, Tryz.f69, ⟨[53], [(18, [2, 3]), (17, [4, 19, 20, 21]), (16, [4, 19, 20, 21]), (15, [4, 6, 7, 19, 20, 21, 30, 31, 32]), (14, [4, 6, 7, 19, 20, 21, 30, 31, 32]), (13, [2, 3]), (12, [4, 6, 7, 9, 10, 19, 20, 21, 30, 31, 32, 45]), (11, [4, 6, 7, 9, 10, 11, 19, 20, 21, 30, 31, 32]), (10, [4, 6, 7, 8, 9, 19, 20, 21, 30, 31, 32]), (9, [4, 6, 7, 19, 20, 21, 30, 31, 32, 33]), (8, [4, 6, 7, 19, 20, 21, 30, 31, 32]), (7, [4, 6, 7, 19, 20, 21]), (6, [4, 6, 19, 20, 21]), (5, [4, 19, 20, 21, 22]), (4, [4, 19, 20, 21]), (3, [1, 4]), (2, [2, 3]), (1, [1, 16]), (0, [1])], [], [(7, [7])], [], []⟩⟩,
⟨84, Tryz.f84, ⟨[], [(5, [6, 7]), (4, [6, 7]), (3, [6, 7, 9, 23]), (2, [4, 5, 6, 7, 9]), (1, [4, 5, 6, 7, 11]), (0, [0, 4, 5, 6, 7])], [], [], [], []⟩⟩,
⟨37, Tryz.f37, ⟨[], [(2, [4, 5]), (1, [6, 7]), (0, [0, 1])], [], [], [], []⟩⟩,
⟨68, Tryz.f68, ⟨[], [(4, [4, 5]), (3, [4, 5]), (2, [6, 15]), (1, [6]), (0, [0, 1])], [], [], [], []⟩⟩,
⟨67, Tryz.f67, ⟨[31], [(17, [2, 3]), (16, [2, 4, 9, 10, 11]), (15, [2, 4, 9, 10, 11]), (14, [2, 3]), (13, [2, 4, 6, 7, 8, 9, 10, 11, 40]), (12, [2, 4, 6, 7, 8, 9, 10, 11]), (11, [2, 4, 6, 9, 10, 11]), (10, [2, 4, 6, 9, 10, 11, 22]), (9, [2, 4, 6, 9, 10, 11, 19, 22]), (8, [2, 4, 6, 9, 10, 11, 19, 22]), (7, [2, 4, 6, 9, 10, 11, 19, 20]), (6, [2, 4, 6, 9, 10, 11, 19]), (5, [2, 4, 6, 9, 10, 11, 17]), (4, [2, 4, 6, 9, 10, 11]), (3, [2, 4, 9, 10, 11, 12]), (2, [2, 4, 9, 10, 11]), (1, [0, 2, 4]), (0, [0, 2])], [], [(4, [6])], [], []⟩⟩,
⟨127, Tryz.f127, ⟨[], [(12, [4, 5, 6]), (11, [4, 19, 20, 21]), (10, [4, 5, 6]), (9, [4, 7, 19, 20, 21, 41]), (8, [4, 7, 8, 19, 20, 21]), (7, [4, 5, 6]), (6, [4, 7, 8, 19, 20, 21, 31]), (5, [4, 7, 8, 19, 20, 21]), (4, [4, 19, 20, 21, 22]), (3, [4, 19, 20, 21]), (2, [4, 5, 6]), (1, [0, 1, 4, 16]), (0, [0, 1, 4])], [], [], [], []⟩⟩,
⟨82, Tryz.f82, ⟨[], [(35, [4, 5, 6]), (34, [4, 8, 10, 11, 130, 131, 132]), (33, [4, 8, 10, 11, 130, 131, 132]), (32, [4, 8, 10, 11, 15, 16, 130, 131, 132]), (31, [4, 8, 10, 11, 130, 131, 132, 133]), (30, [4, 8, 10, 11, 130, 131, 132]), (29, [4, 5, 6]), (28, [0, 1, 4, 8, 10, 11, 119]), (27, [4, 5, 6]), (26, [0, 1, 4, 8, 10, 11]), (25, [0, 1, 4, 8, 10, 11]), (24, [4, 5, 6]), (23, [4, 8, 10, 12]), (22, [4, 5, 6]), (21, [0, 1, 4, 8, 10, 12, 86]), (20, [4, 5, 6]), (19, [4, 8, 10]), (18, [0, 1, 4, 8, 10, 12, 73]), (17, [0, 1, 4, 8, 10, 12]), (16, [4, 5, 6]), (15, [0, 1, 4, 8, 10, 12, 13, 14, 65]), (14, [0, 1, 4, 8, 10, 12, 13, 14]), (13, [0, 1, 4, 8, 10, 11, 53]), (12, [0, 1, 4, 8, 10, 11, 47, 51]), (11, [0, 1, 4, 8, 10, 11, 47, 48]), (10, [0, 1, 4, 8, 10, 11, 47, 48]), (9, [0, 1, 4, 8, 10, 11, 47]), (8, [0, 1, 4, 8, 10, 11]), (7, [0, 1, 4, 8, 10]), (6, [4, 5, 6]), (5, [0, 1, 4, 7, 8, 10, 40]), (4, [0, 1, 4, 7, 8, 10]), (3, [4, 5, 6]), (2, [0, 1, 4, 7, 8, 9, 25]), (1, [0, 1, 4, 7, 8, 9]), (0, [0, 1, 4])], [], [], [], []⟩⟩,
⟨36, Tryz.f36, ⟨[32], [(13, [2, 3]), (12, [0, 4, 5]), (11, [0, 4, 5, 7]), (10, [2, 3]), (9, [0, 4, 5, 6, 7, 8, 27]), (8, [0, 4, 5, 6, 7, 8]), (7, [2, 3]), (6, [0, 4, 5, 18]), (5, [0, 4, 5, 15]), (4, [0, 4, 5]), (3, [0, 4]), (2, [2, 3]), (1, [0, 11]), (0, [0])], [], [(8, [6])], [], []⟩⟩,
⟨22, Tryz.f22, ⟨[], [(28, [2, 3]), (27, [2, 3]), (26, [2, 7, 95]), (25, [2, 7, 8]), (24, [2, 3]), (23, [2, 4, 5, 7, 85]), (22, [2, 4, 5, 7]), (21, [2, 3]), (20, [2, 4, 6, 7, 73]), (19, [2, 4, 6, 7, 8, 9]), (18, [2, 4, 6, 7, 8]), (17, [2, 3]), (16, [2, 4, 5, 6, 7, 53]), (15, [2, 4, 5, 6, 7]), (14, [2, 3]), (13, [2, 4, 6, 7, 44]), (12, [2, 4, 6, 7, 8]), (11, [2, 3]), (10, [2, 4, 6, 7, 35]), (9, [2, 4, 6, 7, 8]), (8, [2, 4, 6, 7]), (7, [2, 4, 6, 7]), (6, [2, 3]), (5, [2, 4, 5, 6, 25]), (4, [2, 4, 5, 6]), (3, [2, 3]), (2, [2, 4, 5, 16]), (1, [2, 4, 5]), (0, [0, 2])], [], [], [], []⟩⟩,
⟨115, Tryz.f115, ⟨[], [(0, [])], [], [], [], []⟩⟩,
⟨114, Tryz.f114, ⟨[], [(1, []), (0, [0, 1, 2, 6])], [], [], [], []⟩⟩,
⟨113, Tryz.f113, ⟨[], [(2, []), (1, [0, 1]), (0, [0, 1, 4])], [], [], [], []⟩⟩,
⟨143, Tryz.f143, ⟨[], [(3, [2]), (2, [2]), (1, [0, 4]), (0, [0])], [], [], [], []⟩⟩,
⟨112, Tryz.f112, ⟨[], [(12, [4]), (11, [8]), (10, [8, 42]), (9, [0, 8]), (8, [0, 5, 7, 8, 34]), (7, [0, 1, 5, 7, 8]), (6, [0, 1, 5, 7]), (5, [0, 1, 5]), (4, [0, 1, 5, 6, 21]), (3, [0, 1, 5, 6]), (2, [0, 1, 5]), (1, [0, 1]), (0, [0, 1])], [], [], [], []⟩⟩,
⟨111, Tryz.f111, ⟨[], [(0, [])], [], [], [], []⟩⟩,
⟨110, Tryz.f110, ⟨[], [(0, [])], [], [], [], []⟩⟩,
⟨141, Tryz.f141, ⟨[], [(1, [2]), (0, [0])], [], [], [], []⟩⟩,
⟨109, Tryz.f109, ⟨[], [(1, [6]), (0, [0, 1, 2])], [], [], [], []⟩⟩,
⟨108, Tryz.f108, ⟨[], [(0, [])], [], [], [], []⟩⟩,
⟨59, Tryz.f59, ⟨[], [(29, [4]), (10, [5]), (9, [5, 6, 10]), (15, [5]), (14, [5, 6, 10]), (13, [3, 5, 6, 7, 10]), (12, [3, 5, 6, 7, 10, 30]), (17, [5]), (20, [5]), (19, [5, 8, 10]), (22, [5]), (26, [5]), (25, [3, 5]), (24, [3, 5, 6, 9, 65]), (28, [5]), (27, [5, 6, 9, 80]), (23, [3, 5, 6, 9, 18, 62]), (21, [3, 5, 6, 9, 10, 18, 57]), (18, [3, 5, 6, 8, 9, 10, 18, 49]), (16, [3, 5, 6, 7, 8, 9, 10, 18, 44]), (11, [3, 5, 6, 7, 8, 9, 10, 18, 27]), (8, [3, 5, 6, 7, 8, 9, 10, 18, 19]), (7, [3, 5, 6, 7, 8, 9, 10, 18]), (6, [2, 3, 5, 6, 7, 8, 9, 10]), (5, [2, 3, 5, 6, 7, 8, 9]), (4, [2, 3, 5, 6, 7, 8]), (3, [2, 3, 5, 6, 7]), (2, [2, 3, 5, 6]), (1, [2, 3, 5]), (0, [2, 3])], [], [], [], []⟩⟩,
⟨38, Tryz.f38, ⟨[], [(21, [2]), (20, [2]), (19, [2]), (18, [2]), (17, [2]), (16, [2]), (15, [2]), (14, [2]), (13, [22]), (12, [3, 20]), (11, [3, 18]), (10, [3, 16]), (9, [3, 14]), (8, [3, 10]), (7, [3, 10]), (6, [3, 10]), (5, [3, 7]), (4, [3, 7]), (3, [3, 4]), (2, [3, 4]), (1, [3]), (0, [0])], [], [], [], []⟩⟩,
⟨17, Tryz.f17, ⟨[], [(8, [4]), (7, [5, 7]), (6, [5, 7, 32]), (5, [3, 5, 7]), (4, [3, 5]), (3, [2, 3, 5, 6, 24]), (2, [2, 3, 5, 6]), (1, [2, 3, 5]), (0, [2, 3])], [], [], [], []⟩⟩,
⟨146, Tryz.f146, ⟨[], [(1, [2]), (0, [0])], [], [], [], []⟩⟩,
⟨164, Tryz.f164, ⟨[], [(7, [4]), (6, [0, 1, 7, 8]), (5, [4]), (4, [0, 1, 5, 7, 8, 16]), (3, [0, 1, 5, 7, 8]), (2, [0, 1, 7, 8, 9]), (1, [0, 1, 7, 8]), (0, [0, 1])], [], [], [], []⟩⟩,
⟨145, Tryz.f145, ⟨[], [(1, [4]), (0, [0, 1])], [], [], [], []⟩⟩,
⟨119, Tryz.f119, ⟨[], [(1, [2]), (0, [0])], [], [], [], []⟩⟩,
⟨66, Tryz.f66, ⟨[], [(1, [2]), (0, [1])], [], [], [], []⟩⟩,
⟨65, Tryz.f65, ⟨[], [(7, [4]), (6, [1, 2, 8, 9, 10]), (5, [4]), (4, [1, 2, 8, 9, 10, 17]), (3, [1, 2, 6, 8, 9, 10]), (2, [1, 2, 8, 9, 10, 11]), (1, [1, 2, 8, 9, 10]), (0, [1, 2])], [], [(3, [6])], [], []⟩⟩,
⟨21, Tryz.f21, ⟨[], [(34, [2, 3]), (33, [2, 3]), (32, [6, 111]), (31, [6]), (30, [1, 5, 6, 88, 89, 90]), (29, [1, 5, 6, 88, 89, 90]), (28, [1, 5, 6, 14, 15, 88, 89, 90]), (27, [1, 5, 6, 88, 89, 90, 91]), (26, [1, 5, 6, 88, 89, 90]), (25, [1, 5, 6]), (24, [1, 5, 6, 66, 67, 68]), (23, [1, 5, 6, 66, 67, 68]), (22, [1, 5, 6, 13, 66, 67, 68]), (21, [1, 5, 6, 66, 67, 68, 69]), (20, [1, 5, 6, 66, 67, 68]), (19, [1, 5, 6]), (18, [1, 5, 6, 36, 37, 38]), (17, [1, 5, 6, 36, 37, 38]), (16, [1, 5, 6, 9, 36, 37, 38, 43, 44, 45]), (15, [1, 5, 6, 9, 36, 37, 38, 43, 44, 45]), (14, [1, 5, 6, 9, 10, 11, 36, 37, 38, 43, 44, 45]), (13, [1, 5, 6, 9, 36, 37, 38, 43, 44, 45, 46]), (12, [1, 5, 6, 9, 36, 37, 38, 43, 44, 45]), (11, [1, 5, 6, 8, 9, 36, 37, 38]), (10, [1, 5, 6, 8, 36, 37, 38]), (9, [1, 5, 6, 36, 37, 38, 39]), (8, [1, 5, 6, 36, 37, 38]), (7, [1, 5, 6]), (6, [2, 3]), (5, [1, 5, 29]), (4, [1, 5]), (3, [2, 3]), (2, [1, 4, 20]), (1, [1, 4]), (0, [1])], [], [(10, [8]), (22, [13]), (28, [15])], [], []⟩⟩,
⟨3, Tryz.f3, ⟨[], [(16, [6]), (15, [3, 4, 12, 13, 14]), (14, [3, 4, 7, 12]), (13, [6]), (12, [3, 4, 7, 62]), (11, [6]), (10, [3, 4, 7, 58]), (9, [3, 4, 7, 8, 9, 10, 11]), (8, [2, 3, 4, 7, 8, 9]), (7, [6]), (6, [2, 3, 4, 7, 34]), (5, [2, 3, 4, 7]), (4, [6]), (3, [2, 3, 4, 29]), (2, [6]), (1, [2, 3, 4, 16]), (0, [2, 3, 4])], [], [], [], []⟩⟩]
set_option maxRecDepth 100000 in
theorem k_ingotref13_Flatten : cFunc Tryz.prog a_ingotref13_Flatten Tryz.f23 = some i_ingotref13_Flatten := by kernel_rfl
set_option maxRecDepth 100000 in
theorem k_ingotref21_PutTypes : cFunc Tryz.prog a_ingotref21_PutTypes Tryz.f20 = some i_ingotref21_PutTypes := by kernel_rfl
set_option maxRecDepth 100000 in
theorem k_ingotlaw21_FootTypes : cFunc Tryz.prog a_ingotlaw21_FootTypes Tryz.f4 = some i_ingotlaw21_FootTypes := by kernel_rfl
set_option maxRecDepth 100000 in
theorem k_ingotref3_PutBytes : cFunc Tryz.prog a_ingotref3_PutBytes Tryz.f26 = some i_ingotref3_PutBytes := by kernel_rfl
set_option maxRecDepth 100000 in
theorem k_ingotref1_PutVar : cFunc Tryz.prog a_ingotref1_PutVar Tryz.f61 = some i_ingotref1_PutVar := by kernel_rfl
set_option maxRecDepth 100000 in
theorem k_ingotref3_may : cFunc Tryz.prog a_ingotref3_may Tryz.f75 = some i_ingotref3_may := by kernel_rfl
set_option maxRecDepth 100000 in
theorem k_ingotref3_PutUint : cFunc Tryz.prog a_ingotref3_PutUint Tryz.f27 = some i_ingotref3_PutUint := by kernel_rfl
set_option maxRecDepth 100000 in
theorem k_ingotref13_own : cFunc Tryz.prog a_ingotref13_own Tryz.f77 = some i_ingotref13_own := by kernel_rfl
set_option maxRecDepth 100000 in
theorem k_ingotref13_check : cFunc Tryz.prog a_ingotref13_check Tryz.f32 = some i_ingotref13_check := by kernel_rfl
set_option maxRecDepth 100000 in
theorem k_ingotref13_Check : cFunc Tryz.prog a_ingotref13_Check Tryz.f10 = some i_ingotref13_Check := by kernel_rfl
set_option maxRecDepth 100000 in
theorem k_ingotlaw13_few : cFunc Tryz.prog a_ingotlaw13_few Tryz.f31 = some i_ingotlaw13_few := by kernel_rfl
set_option maxRecDepth 100000 in
theorem k_ingotlaw13_Few : cFunc Tryz.prog a_ingotlaw13_Few Tryz.f9 = some i_ingotlaw13_Few := by kernel_rfl
set_option maxRecDepth 100000 in
theorem k_foot_PutTypes : cFunc Tryz.prog a_foot_PutTypes Tryz.f19 = some i_foot_PutTypes := by kernel_rfl
set_option maxRecDepth 100000 in
theorem k_pb_PutBytes : cFunc Tryz.prog a_pb_PutBytes Tryz.f58 = some i_pb_PutBytes := by kernel_rfl
set_option maxRecDepth 100000 in
theorem k_nums_PutVar : cFunc Tryz.prog a_nums_PutVar Tryz.f64 = some i_nums_PutVar := by kernel_rfl
set_option maxRecDepth 100000 in
theorem k_slices_Clone_Sbyte_byte : cFunc Tryz.prog a_slices_Clone_Sbyte_byte Tryz.f63 = some i_slices_Clone_Sbyte_byte := by kernel_rfl
set_option maxRecDepth 100000 in
theorem k_pb_head : cFunc Tryz.prog a_pb_head Tryz.f107 = some i_pb_head := by kernel_rfl
set_option maxRecDepth 100000 in
theorem k_pb_PutUint : cFunc Tryz.prog a_pb_PutUint Tryz.f57 = some i_pb_PutUint := by kernel_rfl
set_option maxRecDepth 100000 in
theorem k_slices_Clone_Sstring_string : cFunc Tryz.prog a_slices_Clone_Sstring_string Tryz.f80 = some i_slices_Clone_Sstring_string := by kernel_rfl
set_option maxRecDepth 100000 in
theorem k_types_flatten : cFunc Tryz.prog a_types_flatten Tryz.f35 = some i_types_flatten := by kernel_rfl
set_option maxRecDepth 100000 in
theorem k_types_right : cFunc Tryz.prog a_types_right Tryz.f126 = some i_types_right := by kernel_rfl
set_option maxRecDepth 100000 in
theorem k_types_walk : cFunc Tryz.prog a_types_walk Tryz.f78 = some i_types_walk := by kernel_rfl
set_option maxRecDepth 100000 in
theorem k_types_Check : cFunc Tryz.prog a_types_Check Tryz.f33 = some i_types_Check := by kernel_rfl
set_option maxRecDepth 100000 in
theorem k_types_Flatten : cFunc Tryz.prog a_types_Flatten Tryz.f11 = some i_types_Flatten := by kernel_rfl
set_option maxRecDepth 100000 in
theorem k_ingotlaw21_known : cFunc Tryz.prog a_ingotlaw21_known Tryz.f8 = some i_ingotlaw21_known := by kernel_rfl
theorem tbl_ok : Entries Tryz.prog tbl :=
  .cons (.of Tryz.func23 (by kernel_rfl) k_ingotref13_Flatten) <|
  .cons (.of Tryz.func20 (by kernel_rfl) k_ingotref21_PutTypes) <|
  .cons (.of Tryz.func4 (by kernel_rfl) k_ingotlaw21_FootTypes) <|
  .cons (.of Tryz.func26 (by kernel_rfl) k_ingotref3_PutBytes) <|
  .cons (.of Tryz.func61 (by kernel_rfl) k_ingotref1_PutVar) <|
  .cons (.of Tryz.func75 (by kernel_rfl) k_ingotref3_may) <|
  .cons (.of Tryz.func27 (by kernel_rfl) k_ingotref3_PutUint) <|
  .cons (.of Tryz.func77 (by kernel_rfl) k_ingotref13_own) <|
  .cons (.of Tryz.func32 (by kernel_rfl) k_ingotref13_check) <|
  .cons (.of Tryz.func10 (by kernel_rfl) k_ingotref13_Check) <|
  .cons (.of Tryz.func31 (by kernel_rfl) k_ingotlaw13_few) <|
  .cons (.of Tryz.func9 (by kernel_rfl) k_ingotlaw13_Few) <|
  .cons (.of Tryz.func19 (by kernel_rfl) k_foot_PutTypes) <|
  .cons (.of Tryz.func58 (by kernel_rfl) k_pb_PutBytes) <|
  .cons (.of Tryz.func64 (by kernel_rfl) k_nums_PutVar) <|
  .cons (.of Tryz.func63 (by kernel_rfl) k_slices_Clone_Sbyte_byte) <|
  .cons (.of Tryz.func107 (by kernel_rfl) k_pb_head) <|
  .cons (.of Tryz.func57 (by kernel_rfl) k_pb_PutUint) <|
  .cons (.of Tryz.func80 (by kernel_rfl) k_slices_Clone_Sstring_string) <|
  .cons (.of Tryz.func35 (by kernel_rfl) k_types_flatten) <|
  .cons (.of Tryz.func126 (by kernel_rfl) k_types_right) <|
  .cons (.of Tryz.func78 (by kernel_rfl) k_types_walk) <|
  .cons (.of Tryz.func33 (by kernel_rfl) k_types_Check) <|
  .cons (.of Tryz.func11 (by kernel_rfl) k_types_Flatten) <|
  .cons (.of Tryz.func8 (by kernel_rfl) k_ingotlaw21_known) <|
  .nil
theorem tab_ok : ATab Tryz.prog tab :=
  .cons Tryz.func7 (by kernel_rfl) <|
  .cons Tryz.func28 (by kernel_rfl) <|
  .cons Tryz.func74 (by kernel_rfl) <|
  .cons Tryz.func25 (by kernel_rfl) <|
  .cons Tryz.func24 (by kernel_rfl) <|
  .cons Tryz.func6 (by kernel_rfl) <|
  .cons Tryz.func5 (by kernel_rfl) <|
  .cons Tryz.func62 (by kernel_rfl) <|
  .cons Tryz.func116 (by kernel_rfl) <|
  .cons Tryz.func60 (by kernel_rfl) <|
  .cons Tryz.func18 (by kernel_rfl) <|
  .cons Tryz.func55 (by kernel_rfl) <|
  .cons Tryz.func16 (by kernel_rfl) <|
  .cons Tryz.func54 (by kernel_rfl) <|
  .cons Tryz.func14 (by kernel_rfl) <|
  .cons Tryz.func15 (by kernel_rfl) <|
  .cons Tryz.func106 (by kernel_rfl) <|
  .cons Tryz.func105 (by kernel_rfl) <|
  .cons Tryz.func56 (by kernel_rfl) <|
  .cons Tryz.func140 (by kernel_rfl) <|
  .cons Tryz.func117 (by kernel_rfl) <|
  .cons Tryz.func118 (by kernel_rfl) <|
  .cons Tryz.func139 (by kernel_rfl) <|
  .cons Tryz.func104 (by kernel_rfl) <|
  .cons Tryz.func53 (by kernel_rfl) <|
  .cons Tryz.func103 (by kernel_rfl) <|
  .cons Tryz.func138 (by kernel_rfl) <|
  .cons Tryz.func102 (by kernel_rfl) <|
  .cons Tryz.func52 (by kernel_rfl) <|
  .cons Tryz.func51 (by kernel_rfl) <|
  .cons Tryz.func100 (by kernel_rfl) <|
  .cons Tryz.func49 (by kernel_rfl) <|
  .cons Tryz.func48 (by kernel_rfl) <|
  .cons Tryz.func50 (by kernel_rfl) <|
  .cons Tryz.func47 (by kernel_rfl) <|
  .cons Tryz.func99 (by kernel_rfl) <|
  .cons Tryz.func46 (by kernel_rfl) <|
  .cons Tryz.func45 (by kernel_rfl) <|
  .cons Tryz.func44 (by kernel_rfl) <|
  .cons Tryz.func101 (by kernel_rfl) <|
  .cons Tryz.func98 (by kernel_rfl) <|
  .cons Tryz.func43 (by kernel_rfl) <|
  .cons Tryz.func13 (by kernel_rfl) <|
  .cons Tryz.func125 (by kernel_rfl) <|
  .cons Tryz.func76 (by kernel_rfl) <|
  .cons Tryz.func30 (by kernel_rfl) <|
  .cons Tryz.func29 (by kernel_rfl) <|
  .cons Tryz.func97 (by kernel_rfl) <|
  .cons Tryz.func96 (by kernel_rfl) <|
  .cons Tryz.func137 (by kernel_rfl) <|
  .cons Tryz.func95 (by kernel_rfl) <|
  .cons Tryz.func136 (by kernel_rfl) <|
  .cons Tryz.func135 (by kernel_rfl) <|
  .cons Tryz.func134 (by kernel_rfl) <|
  .cons Tryz.func94 (by kernel_rfl) <|
  .cons Tryz.func133 (by kernel_rfl) <|
  .cons Tryz.func132 (by kernel_rfl) <|
  .cons Tryz.func93 (by kernel_rfl) <|
  .cons Tryz.func41 (by kernel_rfl) <|
  .cons Tryz.func42 (by kernel_rfl) <|
  .cons Tryz.func92 (by kernel_rfl) <|
  .cons Tryz.func156 (by kernel_rfl) <|
  .cons Tryz.func171 (by kernel_rfl) <|
  .cons Tryz.func155 (by kernel_rfl) <|
  .cons Tryz.func154 (by kernel_rfl) <|
  .cons Tryz.func168 (by kernel_rfl) <|
  .cons Tryz.func153 (by kernel_rfl) <|
  .cons Tryz.func177 (by kernel_rfl) <|
  .cons Tryz.func167 (by kernel_rfl) <|
  .cons Tryz.func152 (by kernel_rfl) <|
  .cons Tryz.func131 (by kernel_rfl) <|
  .cons Tryz.func91 (by kernel_rfl) <|
  .cons Tryz.func88 (by kernel_rfl) <|
  .cons Tryz.func89 (by kernel_rfl) <|
  .cons Tryz.func87 (by kernel_rfl) <|
  .cons Tryz.func151 (by kernel_rfl) <|
  .cons Tryz.func129 (by kernel_rfl) <|
  .cons Tryz.func86 (by kernel_rfl) <|
  .cons Tryz.func40 (by kernel_rfl) <|
  .cons Tryz.func12 (by kernel_rfl) <|
  .cons Tryz.func72 (by kernel_rfl) <|
  .cons Tryz.func39 (by kernel_rfl) <|
  .cons Tryz.func71 (by kernel_rfl) <|
  .cons Tryz.func148 (by kernel_rfl) <|
  .cons Tryz.func122 (by kernel_rfl) <|
  .cons Tryz.func147 (by kernel_rfl) <|
  .cons Tryz.func90 (by kernel_rfl) <|
  .cons Tryz.func121 (by kernel_rfl) <|
  .cons Tryz.func70 (by kernel_rfl) <|
  .cons Tryz.func69 (by kernel_rfl) <|
  .cons Tryz.func84 (by kernel_rfl) <|
  .cons Tryz.func37 (by kernel_rfl) <|
  .cons Tryz.func68 (by kernel_rfl) <|
  .cons Tryz.func67 (by kernel_rfl) <|
  .cons Tryz.func127 (by kernel_rfl) <|
  .cons Tryz.func82 (by kernel_rfl) <|
  .cons Tryz.func36 (by kernel_rfl) <|
  .cons Tryz.func22 (by kernel_rfl) <|
  .cons Tryz.func115 (by kernel_rfl) <|
  .cons Tryz.func114 (by kernel_rfl) <|
  .cons Tryz.func113 (by kernel_rfl) <|
  .cons Tryz.func143 (by kernel_rfl) <|
  .cons Tryz.func112 (by kernel_rfl) <|
  .cons Tryz.func111 (by kernel_rfl) <|
  .cons Tryz.func110 (by kernel_rfl) <|
  .cons Tryz.func141 (by kernel_rfl) <|
  .cons Tryz.func109 (by kernel_rfl) <|
  .cons Tryz.func108 (by kernel_rfl) <|
  .cons Tryz.func59 (by kernel_rfl) <|
  .cons Tryz.func38 (by kernel_rfl) <|
  .cons Tryz.func17 (by kernel_rfl) <|
  .cons Tryz.func146 (by kernel_rfl) <|
  .cons Tryz.func164 (by kernel_rfl) <|
  .cons Tryz.func145 (by kernel_rfl) <|
  .cons Tryz.func119 (by kernel_rfl) <|
  .cons Tryz.func66 (by kernel_rfl) <|
  .cons Tryz.func65 (by kernel_rfl) <|
  .cons Tryz.func21 (by kernel_rfl) <|
  .cons Tryz.func3 (by kernel_rfl) <|
  .nil

/-! what is known besides -/
def exts : FuncId → Option (List D → Option V) := fun f => if f = n_types_names then some (xNames) else if f = n_ingotref13_flat then some (xFlat) else if f = n_slices_Backward_Spb_Field_pb_Field then some (xSeq n_slices_Backward_Spb_Field_pb_Field_1) else none
def iters : FuncId → Option (List D → Option (List (List D))) := fun f => if f = n_slices_Backward_Spb_Field_pb_Field_1 then some (iBackA 5) else none
noncomputable def cfg : Cfg := { funcs := fnsOf Tryz.prog tbl tab, meth := fun _ _ => none, glob := fun _ => none, gobj := fun _ => none, intTy := fun _ => false, clip := fun f => clips.contains f, ext := exts, iter := iters }

noncomputable abbrev X_ingotref13_Flatten : Kx := fx cfg 0 [.t 2]
theorem e_ingotref13_Flatten : Oe cfg n_ingotref13_Flatten 1 [.t 2] c_ingotref13_Flatten := fun _ _ _ => evL_go (fn := i_ingotref13_Flatten) rfl rfl _ _ _
theorem o_ingotref13_Flatten (x0 : D) : Of X_ingotref13_Flatten n_ingotref13_Flatten [.d x0] c_ingotref13_Flatten := e_ingotref13_Flatten 0 _ _ rfl rfl
noncomputable abbrev X_ingotref21_PutTypes : Kx := fx cfg 0 [.t 4]
theorem e_ingotref21_PutTypes : Oe cfg n_ingotref21_PutTypes 2 [.t 4] c_ingotref21_PutTypes := fun _ _ _ => evL_go (fn := i_ingotref21_PutTypes) rfl rfl _ _ _
theorem o_ingotref21_PutTypes (x0 x1 : D) : Of X_ingotref21_PutTypes n_ingotref21_PutTypes [.d x0, .d x1] c_ingotref21_PutTypes := e_ingotref21_PutTypes 0 _ _ rfl rfl
noncomputable abbrev X_ingotlaw21_FootTypes : Kx := fx cfg 0 [.t 4]
theorem e_ingotlaw21_FootTypes : Oe cfg n_ingotlaw21_FootTypes 2 [.t 4] c_ingotlaw21_FootTypes := fun _ _ _ => evL_go (fn := i_ingotlaw21_FootTypes) rfl rfl _ _ _
theorem o_ingotlaw21_FootTypes (x0 x1 : D) : Of X_ingotlaw21_FootTypes n_ingotlaw21_FootTypes [.d x0, .d x1] c_ingotlaw21_FootTypes := e_ingotlaw21_FootTypes 0 _ _ rfl rfl
noncomputable abbrev X_ingotref3_PutBytes : Kx := fx cfg 0 [.t 6]
theorem e_ingotref3_PutBytes : Oe cfg n_ingotref3_PutBytes 3 [.t 6] c_ingotref3_PutBytes := fun _ _ _ => evL_go (fn := i_ingotref3_PutBytes) rfl rfl _ _ _
theorem o_ingotref3_PutBytes (x0 x1 x2 : D) : Of X_ingotref3_PutBytes n_ingotref3_PutBytes [.d x0, .d x1, .d x2] c_ingotref3_PutBytes := e_ingotref3_PutBytes 0 _ _ rfl rfl
noncomputable abbrev X_ingotref1_PutVar : Kx := fx cfg 0 [.t 4]
theorem e_ingotref1_PutVar : Oe cfg n_ingotref1_PutVar 2 [.t 4] c_ingotref1_PutVar := fun _ _ _ => evL_go (fn := i_ingotref1_PutVar) rfl rfl _ _ _
theorem o_ingotref1_PutVar (x0 x1 : D) : Of X_ingotref1_PutVar n_ingotref1_PutVar [.d x0, .d x1] c_ingotref1_PutVar := e_ingotref1_PutVar 0 _ _ rfl rfl
noncomputable abbrev X_ingotref3_may : Kx := fx cfg 0 [.t 2]
theorem e_ingotref3_may : Oe cfg n_ingotref3_may 1 [.t 2] c_ingotref3_may := fun _ _ _ => evL_go (fn := i_ingotref3_may) rfl rfl _ _ _
theorem o_ingotref3_may (x0 : D) : Of X_ingotref3_may n_ingotref3_may [.d x0] c_ingotref3_may := e_ingotref3_may 0 _ _ rfl rfl
noncomputable abbrev X_ingotref3_PutUint : Kx := fx cfg 0 [.t 6]
theorem e_ingotref3_PutUint : Oe cfg n_ingotref3_PutUint 3 [.t 6] c_ingotref3_PutUint := fun _ _ _ => evL_go (fn := i_ingotref3_PutUint) rfl rfl _ _ _
theorem o_ingotref3_PutUint (x0 x1 x2 : D) : Of X_ingotref3_PutUint n_ingotref3_PutUint [.d x0, .d x1, .d x2] c_ingotref3_PutUint := e_ingotref3_PutUint 0 _ _ rfl rfl
noncomputable abbrev X_ingotref13_own : Kx := fx cfg 0 [.t 2]
theorem e_ingotref13_own : Oe cfg n_ingotref13_own 1 [.t 2] c_ingotref13_own := fun _ _ _ => evL_go (fn := i_ingotref13_own) rfl rfl _ _ _
theorem o_ingotref13_own (x0 : D) : Of X_ingotref13_own n_ingotref13_own [.d x0] c_ingotref13_own := e_ingotref13_own 0 _ _ rfl rfl
noncomputable abbrev X_ingotref13_check : Kx := fx cfg 0 [.t 6, .t 7]
theorem e_ingotref13_check : Oe cfg n_ingotref13_check 3 [.t 6, .t 7] c_ingotref13_check := fun _ _ _ => evL_go (fn := i_ingotref13_check) rfl rfl _ _ _
theorem o_ingotref13_check (x0 x1 x2 : D) : Of X_ingotref13_check n_ingotref13_check [.d x0, .d x1, .d x2] c_ingotref13_check := e_ingotref13_check 0 _ _ rfl rfl
noncomputable abbrev X_ingotref13_Check : Kx := fx cfg 0 [.t 2]
theorem e_ingotref13_Check : Oe cfg n_ingotref13_Check 1 [.t 2] c_ingotref13_Check := fun _ _ _ => evL_go (fn := i_ingotref13_Check) rfl rfl _ _ _
theorem o_ingotref13_Check (x0 : D) : Of X_ingotref13_Check n_ingotref13_Check [.d x0] c_ingotref13_Check := e_ingotref13_Check 0 _ _ rfl rfl
noncomputable abbrev X_ingotlaw13_few : Kx := fx cfg 0 [.t 4]
theorem e_ingotlaw13_few : Oe cfg n_ingotlaw13_few 2 [.t 4] c_ingotlaw13_few := fun _ _ _ => evL_go (fn := i_ingotlaw13_few) rfl rfl _ _ _
theorem o_ingotlaw13_few (x0 x1 : D) : Of X_ingotlaw13_few n_ingotlaw13_few [.d x0, .d x1] c_ingotlaw13_few := e_ingotlaw13_few 0 _ _ rfl rfl
noncomputable abbrev X_ingotlaw13_Few : Kx := fx cfg 0 [.t 2]
theorem e_ingotlaw13_Few : Oe cfg n_ingotlaw13_Few 1 [.t 2] c_ingotlaw13_Few := fun _ _ _ => evL_go (fn := i_ingotlaw13_Few) rfl rfl _ _ _
theorem o_ingotlaw13_Few (x0 : D) : Of X_ingotlaw13_Few n_ingotlaw13_Few [.d x0] c_ingotlaw13_Few := e_ingotlaw13_Few 0 _ _ rfl rfl
noncomputable abbrev X_foot_PutTypes : Kx := fx cfg 0 [.t 4]
theorem e_foot_PutTypes : Oe cfg n_foot_PutTypes 2 [.t 4] c_foot_PutTypes := fun _ _ _ => evL_go (fn := i_foot_PutTypes) rfl rfl _ _ _
theorem o_foot_PutTypes (x0 x1 : D) : Of X_foot_PutTypes n_foot_PutTypes [.d x0, .d x1] c_foot_PutTypes := e_foot_PutTypes 0 _ _ rfl rfl
noncomputable abbrev X_pb_PutBytes : Kx := fx cfg 0 [.t 6]
theorem e_pb_PutBytes : Oe cfg n_pb_PutBytes 3 [.t 6] c_pb_PutBytes := fun _ _ _ => evL_go (fn := i_pb_PutBytes) rfl rfl _ _ _
theorem o_pb_PutBytes (x0 x1 x2 : D) : Of X_pb_PutBytes n_pb_PutBytes [.d x0, .d x1, .d x2] c_pb_PutBytes := e_pb_PutBytes 0 _ _ rfl rfl
noncomputable abbrev X_nums_PutVar : Kx := fx cfg 0 [.t 4]
theorem e_nums_PutVar : Oe cfg n_nums_PutVar 2 [.t 4] c_nums_PutVar := fun _ _ _ => evL_go (fn := i_nums_PutVar) rfl rfl _ _ _
theorem o_nums_PutVar (x0 x1 : D) : Of X_nums_PutVar n_nums_PutVar [.d x0, .d x1] c_nums_PutVar := e_nums_PutVar 0 _ _ rfl rfl
noncomputable abbrev X_slices_Clone_Sbyte_byte : Kx := fx cfg 0 [.t 2]
theorem e_slices_Clone_Sbyte_byte : Oe cfg n_slices_Clone_Sbyte_byte 1 [.t 2] c_slices_Clone_Sbyte_byte := fun _ _ _ => evL_go (fn := i_slices_Clone_Sbyte_byte) rfl rfl _ _ _
theorem o_slices_Clone_Sbyte_byte (x0 : D) : Of X_slices_Clone_Sbyte_byte n_slices_Clone_Sbyte_byte [.d x0] c_slices_Clone_Sbyte_byte := e_slices_Clone_Sbyte_byte 0 _ _ rfl rfl
noncomputable abbrev X_pb_head : Kx := fx cfg 0 [.t 6, .t 7]
theorem e_pb_head : Oe cfg n_pb_head 3 [.t 6, .t 7] c_pb_head := fun _ _ _ => evL_go (fn := i_pb_head) rfl rfl _ _ _
theorem o_pb_head (x0 x1 x2 : D) : Of X_pb_head n_pb_head [.d x0, .d x1, .d x2] c_pb_head := e_pb_head 0 _ _ rfl rfl
noncomputable abbrev X_pb_PutUint : Kx := fx cfg 0 [.t 6]
theorem e_pb_PutUint : Oe cfg n_pb_PutUint 3 [.t 6] c_pb_PutUint := fun _ _ _ => evL_go (fn := i_pb_PutUint) rfl rfl _ _ _
theorem o_pb_PutUint (x0 x1 x2 : D) : Of X_pb_PutUint n_pb_PutUint [.d x0, .d x1, .d x2] c_pb_PutUint := e_pb_PutUint 0 _ _ rfl rfl
noncomputable abbrev X_slices_Clone_Sstring_string : Kx := fx cfg 0 [.t 2]
theorem e_slices_Clone_Sstring_string : Oe cfg n_slices_Clone_Sstring_string 1 [.t 2] c_slices_Clone_Sstring_string := fun _ _ _ => evL_go (fn := i_slices_Clone_Sstring_string) rfl rfl _ _ _
theorem o_slices_Clone_Sstring_string (x0 : D) : Of X_slices_Clone_Sstring_string n_slices_Clone_Sstring_string [.d x0] c_slices_Clone_Sstring_string := e_slices_Clone_Sstring_string 0 _ _ rfl rfl
noncomputable abbrev X_types_flatten : Kx := fx cfg 0 [.t 8]
theorem e_types_flatten : Oe cfg n_types_flatten 4 [.t 8] c_types_flatten := fun _ _ _ => evL_go (fn := i_types_flatten) rfl rfl _ _ _
theorem o_types_flatten (x0 x1 x2 x3 : D) : Of X_types_flatten n_types_flatten [.d x0, .d x1, .d x2, .d x3] c_types_flatten := e_types_flatten 0 _ _ rfl rfl
noncomputable abbrev X_types_right : Kx := fx cfg 0 [.t 2]
theorem e_types_right : Oe cfg n_types_right 1 [.t 2] c_types_right := fun _ _ _ => evL_go (fn := i_types_right) rfl rfl _ _ _
theorem o_types_right (x0 : D) : Of X_types_right n_types_right [.d x0] c_types_right := e_types_right 0 _ _ rfl rfl
noncomputable abbrev X_types_walk : Kx := fx cfg 0 [.t 6]
theorem e_types_walk : Oe cfg n_types_walk 3 [.t 6] c_types_walk := fun _ _ _ => evL_go (fn := i_types_walk) rfl rfl _ _ _
theorem o_types_walk (x0 x1 x2 : D) : Of X_types_walk n_types_walk [.d x0, .d x1, .d x2] c_types_walk := e_types_walk 0 _ _ rfl rfl
noncomputable abbrev X_types_Check : Kx := fx cfg 0 [.t 2]
theorem e_types_Check : Oe cfg n_types_Check 1 [.t 2] c_types_Check := fun _ _ _ => evL_go (fn := i_types_Check) rfl rfl _ _ _
theorem o_types_Check (x0 : D) : Of X_types_Check n_types_Check [.d x0] c_types_Check := e_types_Check 0 _ _ rfl rfl
noncomputable abbrev X_types_Flatten : Kx := fx cfg 0 [.t 2]
theorem e_types_Flatten : Oe cfg n_types_Flatten 1 [.t 2] c_types_Flatten := fun _ _ _ => evL_go (fn := i_types_Flatten) rfl rfl _ _ _
theorem o_types_Flatten (x0 : D) : Of X_types_Flatten n_types_Flatten [.d x0] c_types_Flatten := e_types_Flatten 0 _ _ rfl rfl
noncomputable abbrev X_ingotlaw21_known : Kx := fx cfg 0 [.t 0]
theorem e_ingotlaw21_known : Oe cfg n_ingotlaw21_known 0 [.t 0] c_ingotlaw21_known := fun _ _ _ => evL_go (fn := i_ingotlaw21_known) rfl rfl _ _ _
theorem o_ingotlaw21_known : Of X_ingotlaw21_known n_ingotlaw21_known [] c_ingotlaw21_known := e_ingotlaw21_known 0 _ _ rfl rfl
@[go_sem] theorem u_foot_Decode : Uc cfg n_foot_Decode := uc rfl
@[go_sem] theorem u_foot_Encode : Uc cfg n_foot_Encode := uc rfl
@[go_sem] theorem u_foot_PutStats : Uc cfg n_foot_PutStats := uc rfl
@[go_sem] theorem u_foot_PutTypes : Uc cfg n_foot_PutTypes := uc rfl
@[go_sem] theorem u_foot_ReadStats : Uc cfg n_foot_ReadStats := uc rfl
@[go_sem] theorem u_ingotlaw13_Few : Uc cfg n_ingotlaw13_Few := uc rfl
@[go_sem] theorem u_ingotlaw13_few : Uc cfg n_ingotlaw13_few := uc rfl
@[go_sem] theorem u_ingotlaw21_FootTypes : Uc cfg n_ingotlaw21_FootTypes := uc rfl
@[go_sem] theorem u_ingotlaw21_known : Uc cfg n_ingotlaw21_known := uc rfl
@[go_sem] theorem u_ingotref13_Check : Uc cfg n_ingotref13_Check := uc rfl
@[go_sem] theorem u_ingotref13_Flatten : Uc cfg n_ingotref13_Flatten := uc rfl
@[go_sem] theorem u_ingotref13_Same : Uc cfg n_ingotref13_Same := uc rfl
@[go_sem] theorem u_ingotref13_check : Uc cfg n_ingotref13_check := uc rfl
@[go_sem] theorem u_ingotref13_flat : Uc cfg n_ingotref13_flat := uc rfl
@[go_sem] theorem u_ingotref13_own : Uc cfg n_ingotref13_own := uc rfl
@[go_sem] theorem u_ingotref1_PutVar : Uc cfg n_ingotref1_PutVar := uc rfl
@[go_sem] theorem u_ingotref21_PutTypes : Uc cfg n_ingotref21_PutTypes := uc rfl
@[go_sem] theorem u_ingotref3_PutBytes : Uc cfg n_ingotref3_PutBytes := uc rfl
@[go_sem] theorem u_ingotref3_PutUint : Uc cfg n_ingotref3_PutUint := uc rfl
@[go_sem] theorem u_ingotref3_may : Uc cfg n_ingotref3_may := uc rfl
@[go_sem] theorem u_nums_PutVar : Uc cfg n_nums_PutVar := uc rfl
@[go_sem] theorem u_pb_PutBytes : Uc cfg n_pb_PutBytes := uc rfl
@[go_sem] theorem u_pb_PutUint : Uc cfg n_pb_PutUint := uc rfl
@[go_sem] theorem u_pb_head : Uc cfg n_pb_head := uc rfl
@[go_sem] theorem u_slices_Backward_Spb_Field_pb_Field : Uc cfg n_slices_Backward_Spb_Field_pb_Field := uc rfl
@[go_sem] theorem u_slices_Clip_Sbyte_byte : Uk cfg n_slices_Clip_Sbyte_byte := uk rfl
@[go_sem] theorem u_slices_Clip_Sint_int : Uk cfg n_slices_Clip_Sint_int := uk rfl
@[go_sem] theorem u_slices_Clip_Sstring_string : Uk cfg n_slices_Clip_Sstring_string := uk rfl
@[go_sem] theorem u_slices_Clip_Stypes_Node_types_Node : Uk cfg n_slices_Clip_Stypes_Node_types_Node := uk rfl
@[go_sem] theorem u_slices_Clone_Sbyte_byte : Uc cfg n_slices_Clone_Sbyte_byte := uc rfl
@[go_sem] theorem u_slices_Clone_Sstring_string : Uc cfg n_slices_Clone_Sstring_string := uc rfl
@[go_sem] theorem u_stat_Same : Uc cfg n_stat_Same := uc rfl
@[go_sem] theorem u_types_Check : Uc cfg n_types_Check := uc rfl
@[go_sem] theorem u_types_Flatten : Uc cfg n_types_Flatten := uc rfl
@[go_sem] theorem u_types_flatten : Uc cfg n_types_flatten := uc rfl
@[go_sem] theorem u_types_names : Uc cfg n_types_names := uc rfl
@[go_sem] theorem u_types_right : Uc cfg n_types_right := uc rfl
@[go_sem] theorem u_types_walk : Uc cfg n_types_walk := uc rfl

end Go.Proofs.YtpnhljhciibfnaaGreatDoor
