/- The evaluator's code of functions that the rows reach, printed by program and checked against the program; of the others what their code is reckoned by. -/
import Derived.Test.YtpnhljhciibfnaaGreatDoorL14
import Derived.Test.YtpnhljhciibfnaaGreatDoorChecked
namespace Go.Proofs.YtpnhljhciibfnaaGreatDoor
open Go.Ev Go
variable {X : Kx} {K : List Kf} {s : St}

def n_ingotlaw21_FootPairs : FuncId := 5
def n_ingotlaw21_FootTwice : FuncId := 7
def n_ingotlaw21_known : FuncId := 8
def n_types_Flatten : FuncId := 11
def n_foot_ReadStats : FuncId := 12
def n_foot_PutStats : FuncId := 17
def n_foot_PutTypes : FuncId := 19
def n_ingotref21_PutTypes : FuncId := 20
def n_foot_Encode : FuncId := 21
def n_foot_Decode : FuncId := 22
def n_ingotref13_Flatten : FuncId := 23
def n_ingotref3_PutBytes : FuncId := 26
def n_ingotref3_PutUint : FuncId := 27
def n_ingotref13_Same : FuncId := 29
def n_stat_Same : FuncId := 30
def n_types_Check : FuncId := 33
def n_pb_Parse : FuncId := 36
def n_pb_Uint : FuncId := 37
def n_pb_Text : FuncId := 39
def n_pb_PutUint : FuncId := 57
def n_pb_PutBytes : FuncId := 58
def n_ingotref1_PutVar : FuncId := 61
def n_slices_Clone_Sbyte_byte : FuncId := 63
def n_nums_PutVar : FuncId := 64
def n_foot_right : FuncId := 65
def n_foot_Stripe_numbers : FuncId := 66
def n_foot_split : FuncId := 67
def n_foot_number : FuncId := 68
def n_foot_parts_stripes : FuncId := 69
def n_foot_parts_tree : FuncId := 70
def n_foot_parts_pairs : FuncId := 71
def n_foot_parts_known : FuncId := 72
def n_ingotref3_may : FuncId := 75
def n_pb_field : FuncId := 82
def n_slices_Clip_Spb_Field_pb_Field : FuncId := 83
def n_pb_last : FuncId := 84
def n_slices_Clip_Sbyte_byte : FuncId := 85
def n_ingotref1_Zag : FuncId := 100
def n_ingotref1_Var : FuncId := 101
def n_pb_head : FuncId := 107
def n_ingotref1_Zig : FuncId := 116
def n_foot_in : FuncId := 119
def n_slices_Clip_Sfoot_Stripe_foot_Stripe : FuncId := 120
def n_foot_node : FuncId := 121
def n_types_Build : FuncId := 122
def n_slices_Clip_Sapi_Pair_api_Pair : FuncId := 123
def n_slices_Clip_Sstat_Stats_stat_Stats : FuncId := 124
def n_nums_Var : FuncId := 127
def n_slices_Backward_Spb_Field_pb_Field : FuncId := 128
def n_nums_Zig : FuncId := 141
def n_types_names : FuncId := 149
def n_slices_Backward_Spb_Field_pb_Field_1 : FuncId := 150
def n_nums_Zag : FuncId := 151
/-! ingot/ingotlaw21.FootTwice -/
@[go_sem] def r_ingotlaw21_FootTwice_0_o : Ops := [
oo 6 (.asg (.c (.bool false)))]
def r_ingotlaw21_FootTwice_0 := rg r_ingotlaw21_FootTwice_0_o [0, 1, 2]
@[go_sem] theorem r_ingotlaw21_FootTwice_0_u : Gr X K s r_ingotlaw21_FootTwice_0 r_ingotlaw21_FootTwice_0_o [0, 1, 2] := go_region _ _
@[go_sem] def r_ingotlaw21_FootTwice_1_o : Ops := [
oo 12 (.call false n_ingotlaw21_known []), oo 13 (.un .not (.t 12))]
def r_ingotlaw21_FootTwice_1 := rg r_ingotlaw21_FootTwice_1_o [0, 1, 2, 13]
@[go_sem] theorem r_ingotlaw21_FootTwice_1_u : Gr X K s r_ingotlaw21_FootTwice_1 r_ingotlaw21_FootTwice_1_o [0, 1, 2, 13] := go_region _ _
@[go_sem] def r_ingotlaw21_FootTwice_2_o : Ops := [
oo 6 (.asg (.c (.bool false)))]
def r_ingotlaw21_FootTwice_2 := rg r_ingotlaw21_FootTwice_2_o [6]
@[go_sem] theorem r_ingotlaw21_FootTwice_2_u : Gr X K s r_ingotlaw21_FootTwice_2 r_ingotlaw21_FootTwice_2_o [6] := go_region _ _
@[go_sem] def r_ingotlaw21_FootTwice_3_o : Ops := [
oo 14 (.mv (.t 2)), oo 15 (.len false (.t 14)), oo 16 (.bin .gtr (.t 15) (ci 100))]
def r_ingotlaw21_FootTwice_3 := rg r_ingotlaw21_FootTwice_3_o [0, 1, 2, 16]
@[go_sem] theorem r_ingotlaw21_FootTwice_3_u : Gr X K s r_ingotlaw21_FootTwice_3 r_ingotlaw21_FootTwice_3_o [0, 1, 2, 16] := go_region _ _
@[go_sem] def r_ingotlaw21_FootTwice_4_o : Ops := [
oo 6 (.asg (.c (.bool true)))]
def r_ingotlaw21_FootTwice_4 := rg r_ingotlaw21_FootTwice_4_o [6]
@[go_sem] theorem r_ingotlaw21_FootTwice_4_u : Gr X K s r_ingotlaw21_FootTwice_4 r_ingotlaw21_FootTwice_4_o [6] := go_region _ _
@[go_sem] def r_ingotlaw21_FootTwice_5_o : Ops := [
oo 17 (.mv (.t 0)), oo 18 (.cvInt .u64 (.t 17)), oo 19 (.callg true n_ingotref3_PutUint [(.c .nilS), (ci 6), (.t 18)] 0), oo 20 (.mv (.t 0)), oo 21 (.cvInt .u64 (.t 20)), oo 22 (.callg true n_ingotref3_PutUint [(.t 19), (ci 8), (.t 21)] 0), oo 7 (.asg (.t 22))]
def r_ingotlaw21_FootTwice_5 := rg r_ingotlaw21_FootTwice_5_o [1, 2, 7]
@[go_sem] theorem r_ingotlaw21_FootTwice_5_u : Gr X K s r_ingotlaw21_FootTwice_5 r_ingotlaw21_FootTwice_5_o [1, 2, 7] := go_region _ _
@[go_sem] def r_ingotlaw21_FootTwice_6_o : Ops := [
oo 8 (.asg (ci 0))]
def r_ingotlaw21_FootTwice_6 := rg r_ingotlaw21_FootTwice_6_o [1, 2, 7, 8]
@[go_sem] theorem r_ingotlaw21_FootTwice_6_u : Gr X K s r_ingotlaw21_FootTwice_6 r_ingotlaw21_FootTwice_6_o [1, 2, 7, 8] := go_region _ _
@[go_sem] def r_ingotlaw21_FootTwice_7_o : Ops := [
oo 23 (.mv (.t 8)), oo 24 (.mv (.t 2)), oo 25 (.len false (.t 24)), oo 26 (.bin .lss (.t 23) (.t 25))]
def r_ingotlaw21_FootTwice_7 := rg r_ingotlaw21_FootTwice_7_o [1, 2, 7, 8, 26]
@[go_sem] theorem r_ingotlaw21_FootTwice_7_u : Gr X K s r_ingotlaw21_FootTwice_7 r_ingotlaw21_FootTwice_7_o [1, 2, 7, 8, 26] := go_region _ _
@[go_sem] def r_ingotlaw21_FootTwice_8_o : Ops := [
oo 29 (.mv (.t 7)), oo 30 (.callg true n_ingotref3_PutUint [(.c .nilS), (ci 5), (.c (.int .u64 9))] 0), oo 31 (.mv (.t 2)), oo 32 (.mv (.t 8)), oo 33 (.idxA 1 (.t 31) (.t 32)), oo 34 (.load none (.t 33)), oo 35 (.cvInt .u64 (.t 34)), oo 36 (.callg false n_ingotref3_PutUint [(.t 30), (ci 5), (.t 35)] 0), oo 37 (.callg true n_ingotref3_PutBytes [(.t 29), (ci 3), (.t 36)] 0), oo 7 (.asg (.t 37))]
def r_ingotlaw21_FootTwice_8_n : List (Nat × Nat) := [(0, 1), (0, 2), (1, 2), (0, 3), (1, 3), (2, 3), (0, 4), (1, 4), (0, 5), (1, 5), (0, 6), (1, 6), (0, 7)]
def r_ingotlaw21_FootTwice_8 : ICode := .region r_ingotlaw21_FootTwice_8_o r_ingotlaw21_FootTwice_8_n [1, 2, 7, 8]
@[go_sem] theorem r_ingotlaw21_FootTwice_8_u : go X (.c r_ingotlaw21_FootTwice_8 :: K) s = goRU X [] r_ingotlaw21_FootTwice_8_n r_ingotlaw21_FootTwice_8_o [1, 2, 7, 8] K s := go_regionU' _ _ _ _
@[go_sem] def r_ingotlaw21_FootTwice_9_o : Ops := [
oo 27 (.mv (.t 8)), oo 28 (.bin .add (.t 27) (ci 1)), oo 8 (.asg (.t 28))]
def r_ingotlaw21_FootTwice_9 := rg r_ingotlaw21_FootTwice_9_o [1, 2, 7, 8]
@[go_sem] theorem r_ingotlaw21_FootTwice_9_u : Gr X K s r_ingotlaw21_FootTwice_9 r_ingotlaw21_FootTwice_9_o [1, 2, 7, 8] := go_region _ _
def b_ingotlaw21_FootTwice_10 : ICode := (.seq (.seq r_ingotlaw21_FootTwice_7 (.cond (.t 26) .skip (.exit 0))) (.seq (.block 1 r_ingotlaw21_FootTwice_8) r_ingotlaw21_FootTwice_9))
@[go_sem] theorem b_ingotlaw21_FootTwice_10_u : Gn X K s b_ingotlaw21_FootTwice_10 (.seq (.seq r_ingotlaw21_FootTwice_7 (.cond (.t 26) .skip (.exit 0))) (.seq (.block 1 r_ingotlaw21_FootTwice_8) r_ingotlaw21_FootTwice_9)) := rfl
@[go_sem] def r_ingotlaw21_FootTwice_11_o : Ops := [
oo 38 (.mv (.t 7)), oo 39 (.build [(.int .i64 0), .nilS, .nilS, (.int .i64 0), (.int .i64 0), (.int .i64 0)] [(0, 1, (ci 12))]), oo 40 (.callg true n_ingotref21_PutTypes [(.t 38), (.t 39)] 0), oo 7 (.asg (.t 40))]
def r_ingotlaw21_FootTwice_11 := rg r_ingotlaw21_FootTwice_11_o [1, 2, 7]
@[go_sem] theorem r_ingotlaw21_FootTwice_11_u : Gr X K s r_ingotlaw21_FootTwice_11 r_ingotlaw21_FootTwice_11_o [1, 2, 7] := go_region _ _
@[go_sem] def r_ingotlaw21_FootTwice_12_o : Ops := [
oo 41 (.mv (.t 7)), oo 42 (.mv (.t 1)), oo 43 (.cvInt .u64 (.t 42)), oo 44 (.callg true n_ingotref3_PutUint [(.t 41), (ci 6), (.t 43)] 0), oo 45 (.mv (.t 1)), oo 46 (.cvInt .u64 (.t 45)), oo 47 (.callg true n_ingotref3_PutUint [(.t 44), (ci 8), (.t 46)] 0), oo 7 (.asg (.t 47))]
def r_ingotlaw21_FootTwice_12 := rg r_ingotlaw21_FootTwice_12_o [1, 2, 7]
@[go_sem] theorem r_ingotlaw21_FootTwice_12_u : Gr X K s r_ingotlaw21_FootTwice_12 r_ingotlaw21_FootTwice_12_o [1, 2, 7] := go_region _ _
@[go_sem] def r_ingotlaw21_FootTwice_13_o : Ops := [
oo 49 (.mv (.t 7)), oo 50 (.call false n_foot_Decode [(.t 49)]), oo 48 (.mv (.t 50)), oo 51 (.ext (.t 48) 0), oo 52 (.ext (.t 48) 1), oo 9 (.alloc [(.int .i64 0), .nilS, (.int .i64 0), .nilS, .nilS, (.int .i64 0), (.int .i64 0), (.int .i64 0), .nilS, (.int .i64 0), .nilS, (.int .i64 0)]), ow (.store 12 (.t 9) (.t 51)), oo 10 (.asg (.t 52))]
def r_ingotlaw21_FootTwice_13 := rg r_ingotlaw21_FootTwice_13_o [1, 2, 9, 10]
@[go_sem] theorem r_ingotlaw21_FootTwice_13_u : Gr X K s r_ingotlaw21_FootTwice_13 r_ingotlaw21_FootTwice_13_o [1, 2, 9, 10] := go_region _ _
@[go_sem] def r_ingotlaw21_FootTwice_14_o : Ops := [
oo 53 (.mv (.t 10)), oo 54 (.bin .neq (.t 53) (ci 0)), oo 55 (.mv (.t 54)), og 56 55 false (.fieldA 9 (.t 9)), og 57 55 false (.load none (.t 56)), og 58 55 false (.mv (.t 1)), og 59 55 false (.cvInt .i64 (.t 58)), og 60 55 false (.bin .neq (.t 57) (.t 59)), oo 61 (.pick (.t 55) (.c (.bool true)) (.t 60)), oo 62 (.mv (.t 61)), og 63 62 false (.fieldA 11 (.t 9)), og 64 62 false (.load none (.t 63)), og 65 62 false (.mv (.t 1)), og 66 62 false (.cvInt .i64 (.t 65)), og 67 62 false (.bin .neq (.t 64) (.t 66)), oo 68 (.pick (.t 62) (.c (.bool true)) (.t 67)), oo 69 (.mv (.t 68)), og 70 69 false (.fieldA 1 (.t 9)), og 71 69 false (.load none (.t 70)), og 72 69 false (.len false (.t 71)), og 73 69 false (.mv (.t 2)), og 74 69 false (.len false (.t 73)), og 75 69 false (.bin .neq (.t 72) (.t 74)), oo 76 (.pick (.t 69) (.c (.bool true)) (.t 75)), oo 77 (.mv (.t 76)), og 78 77 false (.fieldA 10 (.t 9)), og 79 77 false (.load none (.t 78)), og 80 77 false (.len false (.t 79)), og 81 77 false (.bin .neq (.t 80) (ci 0)), oo 82 (.pick (.t 77) (.c (.bool true)) (.t 81))]
def r_ingotlaw21_FootTwice_14 := rg r_ingotlaw21_FootTwice_14_o [2, 9, 82]
@[go_sem] theorem r_ingotlaw21_FootTwice_14_u : Gr X K s r_ingotlaw21_FootTwice_14 r_ingotlaw21_FootTwice_14_o [2, 9, 82] := go_region _ _
@[go_sem] def r_ingotlaw21_FootTwice_15_o : Ops := [
oo 6 (.asg (.c (.bool false)))]
def r_ingotlaw21_FootTwice_15 := rg r_ingotlaw21_FootTwice_15_o [6]
@[go_sem] theorem r_ingotlaw21_FootTwice_15_u : Gr X K s r_ingotlaw21_FootTwice_15 r_ingotlaw21_FootTwice_15_o [6] := go_region _ _
@[go_sem] def r_ingotlaw21_FootTwice_16_o : Ops := [
oo 11 (.asg (ci 0))]
def r_ingotlaw21_FootTwice_16 := rg r_ingotlaw21_FootTwice_16_o [2, 9, 11]
@[go_sem] theorem r_ingotlaw21_FootTwice_16_u : Gr X K s r_ingotlaw21_FootTwice_16 r_ingotlaw21_FootTwice_16_o [2, 9, 11] := go_region _ _
@[go_sem] def r_ingotlaw21_FootTwice_17_o : Ops := [
oo 83 (.mv (.t 11)), oo 84 (.mv (.t 2)), oo 85 (.len false (.t 84)), oo 86 (.bin .lss (.t 83) (.t 85))]
def r_ingotlaw21_FootTwice_17 := rg r_ingotlaw21_FootTwice_17_o [2, 9, 11, 86]
@[go_sem] theorem r_ingotlaw21_FootTwice_17_u : Gr X K s r_ingotlaw21_FootTwice_17 r_ingotlaw21_FootTwice_17_o [2, 9, 11, 86] := go_region _ _
@[go_sem] def r_ingotlaw21_FootTwice_18_o : Ops := [
oo 89 (.fieldA 1 (.t 9)), oo 90 (.load none (.t 89)), oo 91 (.mv (.t 11)), oo 92 (.idxA 5 (.t 90) (.t 91)), oo 93 (.fieldA 4 (.t 92)), oo 94 (.load none (.t 93)), oo 95 (.mv (.t 2)), oo 96 (.mv (.t 11)), oo 97 (.idxA 1 (.t 95) (.t 96)), oo 98 (.load none (.t 97)), oo 99 (.cvInt .i64 (.t 98)), oo 100 (.bin .neq (.t 94) (.t 99)), oo 101 (.mv (.t 100)), og 102 101 false (.fieldA 1 (.t 9)), og 103 101 false (.load none (.t 102)), og 104 101 false (.mv (.t 11)), og 105 101 false (.idxA 5 (.t 103) (.t 104)), og 106 101 false (.fieldA 0 (.t 105)), og 107 101 false (.load none (.t 106)), og 108 101 false (.bin .neq (.t 107) (ci 0)), oo 109 (.pick (.t 101) (.c (.bool true)) (.t 108))]
def r_ingotlaw21_FootTwice_18_n : List (Nat × Nat) := [(0, 2), (1, 2), (0, 6), (1, 6), (2, 6), (3, 6), (4, 6), (5, 6), (0, 7), (1, 7), (2, 7), (3, 7), (4, 7), (5, 7), (6, 7), (0, 8), (1, 8), (2, 8), (3, 8), (4, 8), (5, 8), (0, 9), (1, 9), (2, 9), (3, 9), (4, 9), (5, 9), (0, 10), (1, 10), (2, 10), (3, 10), (4, 10), (5, 10), (13, 15), (14, 15)]
def r_ingotlaw21_FootTwice_18 : ICode := .region r_ingotlaw21_FootTwice_18_o r_ingotlaw21_FootTwice_18_n [2, 9, 11, 109]
@[go_sem] theorem r_ingotlaw21_FootTwice_18_u : go X (.c r_ingotlaw21_FootTwice_18 :: K) s = goRU X [] r_ingotlaw21_FootTwice_18_n r_ingotlaw21_FootTwice_18_o [2, 9, 11, 109] K s := go_regionU' _ _ _ _
@[go_sem] def r_ingotlaw21_FootTwice_19_o : Ops := [
oo 6 (.asg (.c (.bool false)))]
def r_ingotlaw21_FootTwice_19 := rg r_ingotlaw21_FootTwice_19_o [6]
@[go_sem] theorem r_ingotlaw21_FootTwice_19_u : Gr X K s r_ingotlaw21_FootTwice_19 r_ingotlaw21_FootTwice_19_o [6] := go_region _ _
@[go_sem] def r_ingotlaw21_FootTwice_20_o : Ops := [
oo 87 (.mv (.t 11)), oo 88 (.bin .add (.t 87) (ci 1)), oo 11 (.asg (.t 88))]
def r_ingotlaw21_FootTwice_20 := rg r_ingotlaw21_FootTwice_20_o [2, 9, 11]
@[go_sem] theorem r_ingotlaw21_FootTwice_20_u : Gr X K s r_ingotlaw21_FootTwice_20 r_ingotlaw21_FootTwice_20_o [2, 9, 11] := go_region _ _
def b_ingotlaw21_FootTwice_21 : ICode := (.seq (.seq r_ingotlaw21_FootTwice_17 (.cond (.t 86) .skip (.exit 2))) (.seq (.block 3 (.seq r_ingotlaw21_FootTwice_18 (.cond (.t 109) (.seq r_ingotlaw21_FootTwice_19 .ret) .skip))) r_ingotlaw21_FootTwice_20))
@[go_sem] theorem b_ingotlaw21_FootTwice_21_u : Gn X K s b_ingotlaw21_FootTwice_21 (.seq (.seq r_ingotlaw21_FootTwice_17 (.cond (.t 86) .skip (.exit 2))) (.seq (.block 3 (.seq r_ingotlaw21_FootTwice_18 (.cond (.t 109) (.seq r_ingotlaw21_FootTwice_19 .ret) .skip))) r_ingotlaw21_FootTwice_20)) := rfl
@[go_sem] def r_ingotlaw21_FootTwice_22_o : Ops := [
oo 6 (.asg (.c (.bool true)))]
def r_ingotlaw21_FootTwice_22 := rg r_ingotlaw21_FootTwice_22_o [6]
@[go_sem] theorem r_ingotlaw21_FootTwice_22_u : Gr X K s r_ingotlaw21_FootTwice_22 r_ingotlaw21_FootTwice_22_o [6] := go_region _ _
def c_ingotlaw21_FootTwice : ICode := (.seq r_ingotlaw21_FootTwice_0 (.seq r_ingotlaw21_FootTwice_1 (.cond (.t 13) (.seq r_ingotlaw21_FootTwice_2 .ret) (.seq r_ingotlaw21_FootTwice_3 (.cond (.t 16) (.seq r_ingotlaw21_FootTwice_4 .ret) (.seq r_ingotlaw21_FootTwice_5 (.seq (.seq r_ingotlaw21_FootTwice_6 (.block 0 (.loop b_ingotlaw21_FootTwice_10))) (.seq r_ingotlaw21_FootTwice_11 (.seq r_ingotlaw21_FootTwice_12 (.seq (.seq (.demote [7]) r_ingotlaw21_FootTwice_13) (.seq r_ingotlaw21_FootTwice_14 (.cond (.t 82) (.seq r_ingotlaw21_FootTwice_15 .ret) (.seq (.seq r_ingotlaw21_FootTwice_16 (.block 2 (.loop b_ingotlaw21_FootTwice_21))) (.seq r_ingotlaw21_FootTwice_22 .ret))))))))))))))
def i_ingotlaw21_FootTwice : IFunc := ⟨3, [.t 6], c_ingotlaw21_FootTwice⟩
def a_ingotlaw21_FootTwice : Advice := ⟨[19, 22, 30, 37, 40, 44, 47], [(20, [6]), (17, [2, 9, 11]), (19, [6]), (18, [2, 9, 11, 109]), (16, [2, 9, 11, 86]), (15, [2, 9, 11]), (14, [6]), (13, [2, 9, 82]), (12, [1, 2, 9, 10]), (11, [1, 2, 7]), (10, [1, 2, 7]), (8, [1, 2, 7, 8]), (9, [1, 2, 7, 8]), (7, [1, 2, 7, 8, 26]), (6, [1, 2, 7, 8]), (5, [1, 2, 7]), (4, [6]), (3, [0, 1, 2, 16]), (2, [6]), (1, [0, 1, 2, 13]), (0, [0, 1, 2])], [(12, [7])], [], [(19, 0), (22, 0), (30, 0), (36, 0), (37, 0), (40, 0), (44, 0), (47, 0)], []⟩
/-! ingot/ingotlaw21.FootPairs -/
@[go_sem] def r_ingotlaw21_FootPairs_0_o : Ops := [
oo 2 (.asg (.c (.bool false)))]
def r_ingotlaw21_FootPairs_0 := rg r_ingotlaw21_FootPairs_0_o [0]
@[go_sem] theorem r_ingotlaw21_FootPairs_0_u : Gr X K s r_ingotlaw21_FootPairs_0 r_ingotlaw21_FootPairs_0_o [0] := go_region _ _
@[go_sem] def r_ingotlaw21_FootPairs_1_o : Ops := [
oo 11 (.call false n_ingotlaw21_known []), oo 12 (.un .not (.t 11))]
def r_ingotlaw21_FootPairs_1 := rg r_ingotlaw21_FootPairs_1_o [0, 12]
@[go_sem] theorem r_ingotlaw21_FootPairs_1_u : Gr X K s r_ingotlaw21_FootPairs_1 r_ingotlaw21_FootPairs_1_o [0, 12] := go_region _ _
@[go_sem] def r_ingotlaw21_FootPairs_2_o : Ops := [
oo 2 (.asg (.c (.bool false)))]
def r_ingotlaw21_FootPairs_2 := rg r_ingotlaw21_FootPairs_2_o [2]
@[go_sem] theorem r_ingotlaw21_FootPairs_2_u : Gr X K s r_ingotlaw21_FootPairs_2 r_ingotlaw21_FootPairs_2_o [2] := go_region _ _
@[go_sem] def r_ingotlaw21_FootPairs_3_o : Ops := [
oo 13 (.mv (.t 0)), oo 14 (.len false (.t 13)), oo 15 (.bin .gtr (.t 14) (ci 40))]
def r_ingotlaw21_FootPairs_3 := rg r_ingotlaw21_FootPairs_3_o [0, 15]
@[go_sem] theorem r_ingotlaw21_FootPairs_3_u : Gr X K s r_ingotlaw21_FootPairs_3 r_ingotlaw21_FootPairs_3_o [0, 15] := go_region _ _
@[go_sem] def r_ingotlaw21_FootPairs_4_o : Ops := [
oo 2 (.asg (.c (.bool true)))]
def r_ingotlaw21_FootPairs_4 := rg r_ingotlaw21_FootPairs_4_o [2]
@[go_sem] theorem r_ingotlaw21_FootPairs_4_u : Gr X K s r_ingotlaw21_FootPairs_4 r_ingotlaw21_FootPairs_4_o [2] := go_region _ _
@[go_sem] def r_ingotlaw21_FootPairs_5_o : Ops := [
oo 3 (.asg (ci 0))]
def r_ingotlaw21_FootPairs_5 := rg r_ingotlaw21_FootPairs_5_o [0, 3]
@[go_sem] theorem r_ingotlaw21_FootPairs_5_u : Gr X K s r_ingotlaw21_FootPairs_5 r_ingotlaw21_FootPairs_5_o [0, 3] := go_region _ _
@[go_sem] def r_ingotlaw21_FootPairs_6_o : Ops := [
oo 4 (.asg (ci 0))]
def r_ingotlaw21_FootPairs_6 := rg r_ingotlaw21_FootPairs_6_o [0, 3, 4]
@[go_sem] theorem r_ingotlaw21_FootPairs_6_u : Gr X K s r_ingotlaw21_FootPairs_6 r_ingotlaw21_FootPairs_6_o [0, 3, 4] := go_region _ _
@[go_sem] def r_ingotlaw21_FootPairs_7_o : Ops := [
oo 16 (.mv (.t 4)), oo 17 (.mv (.t 0)), oo 18 (.len false (.t 17)), oo 19 (.bin .lss (.t 16) (.t 18))]
def r_ingotlaw21_FootPairs_7 := rg r_ingotlaw21_FootPairs_7_o [0, 3, 4, 19]
@[go_sem] theorem r_ingotlaw21_FootPairs_7_u : Gr X K s r_ingotlaw21_FootPairs_7 r_ingotlaw21_FootPairs_7_o [0, 3, 4, 19] := go_region _ _
@[go_sem] def r_ingotlaw21_FootPairs_8_o : Ops := [
oo 22 (.mv (.t 0)), oo 23 (.mv (.t 4)), oo 24 (.idxA 2 (.t 22) (.t 23)), oo 25 (.fieldA 0 (.t 24)), oo 26 (.load none (.t 25)), oo 27 (.len true (.t 26)), oo 28 (.bin .gtr (.t 27) (ci 300)), oo 29 (.mv (.t 28)), og 30 29 false (.mv (.t 0)), og 31 29 false (.mv (.t 4)), og 32 29 false (.idxA 2 (.t 30) (.t 31)), og 33 29 false (.fieldA 1 (.t 32)), og 34 29 false (.load none (.t 33)), og 35 29 false (.len false (.t 34)), og 36 29 false (.bin .gtr (.t 35) (ci 1000)), oo 37 (.pick (.t 29) (.c (.bool true)) (.t 36))]
def r_ingotlaw21_FootPairs_8 := rg r_ingotlaw21_FootPairs_8_o [0, 3, 4, 37]
@[go_sem] theorem r_ingotlaw21_FootPairs_8_u : Gr X K s r_ingotlaw21_FootPairs_8 r_ingotlaw21_FootPairs_8_o [0, 3, 4, 37] := go_region _ _
@[go_sem] def r_ingotlaw21_FootPairs_9_o : Ops := [
oo 2 (.asg (.c (.bool true)))]
def r_ingotlaw21_FootPairs_9 := rg r_ingotlaw21_FootPairs_9_o [2]
@[go_sem] theorem r_ingotlaw21_FootPairs_9_u : Gr X K s r_ingotlaw21_FootPairs_9 r_ingotlaw21_FootPairs_9_o [2] := go_region _ _
@[go_sem] def r_ingotlaw21_FootPairs_10_o : Ops := [
oo 20 (.mv (.t 4)), oo 21 (.bin .add (.t 20) (ci 1)), oo 4 (.asg (.t 21))]
def r_ingotlaw21_FootPairs_10 := rg r_ingotlaw21_FootPairs_10_o [0, 3, 4]
@[go_sem] theorem r_ingotlaw21_FootPairs_10_u : Gr X K s r_ingotlaw21_FootPairs_10 r_ingotlaw21_FootPairs_10_o [0, 3, 4] := go_region _ _
def b_ingotlaw21_FootPairs_11 : ICode := (.seq (.seq r_ingotlaw21_FootPairs_7 (.cond (.t 19) .skip (.exit 0))) (.seq (.block 1 (.seq r_ingotlaw21_FootPairs_8 (.cond (.t 37) (.seq r_ingotlaw21_FootPairs_9 .ret) .skip))) r_ingotlaw21_FootPairs_10))
@[go_sem] theorem b_ingotlaw21_FootPairs_11_u : Gn X K s b_ingotlaw21_FootPairs_11 (.seq (.seq r_ingotlaw21_FootPairs_7 (.cond (.t 19) .skip (.exit 0))) (.seq (.block 1 (.seq r_ingotlaw21_FootPairs_8 (.cond (.t 37) (.seq r_ingotlaw21_FootPairs_9 .ret) .skip))) r_ingotlaw21_FootPairs_10)) := rfl
@[go_sem] def r_ingotlaw21_FootPairs_12_o : Ops := [
oo 38 (.build [(.int .i64 0), .nilS, .nilS, (.int .i64 0), (.int .i64 0), (.int .i64 0)] [(0, 1, (ci 12))]), oo 5 (.alloc [(.int .i64 0), .nilS, .nilS, (.int .i64 0), (.int .i64 0), (.int .i64 0)]), ow (.store 6 (.t 5) (.t 38))]
def r_ingotlaw21_FootPairs_12 := rg r_ingotlaw21_FootPairs_12_o [0, 3, 5]
@[go_sem] theorem r_ingotlaw21_FootPairs_12_u : Gr X K s r_ingotlaw21_FootPairs_12 r_ingotlaw21_FootPairs_12_o [0, 3, 5] := go_region _ _
@[go_sem] def r_ingotlaw21_FootPairs_13_o : Ops := [
oo 40 (.load (some 6) (.t 5)), oo 41 (.mv (.t 0)), oo 42 (.build [(.int .i64 0), (.bool false), (.bool false), (.bool false), (.int .i64 0), (.int .i64 0), .nilS, .nilS, (.bool false), (.int .i64 0), (.int .i64 0), .nilS, .nilS, (.bool false), (.int .i64 0)] []), oo 43 (.lit false 15 1 (.agg [(.int .i64 0), (.bool false), (.bool false), (.bool false), (.int .i64 0), (.int .i64 0), (.sl []), (.sl []), (.bool false), (.int .i64 0), (.int .i64 0), (.sl []), (.sl []), (.bool false), (.int .i64 0)]) [(0, (.t 42))]), oo 44 (.build [(.int .i64 0), .nilS, (.int .i64 0), .nilS, .nilS, (.int .i64 0), (.int .i64 0), (.int .i64 0), .nilS, (.int .i64 0), .nilS, (.int .i64 0)] [(2, 6, (.t 40)), (8, 1, (.t 41)), (10, 1, (.t 43))]), oo 45 (.call false n_foot_Encode [(.t 44)]), oo 39 (.mv (.t 45)), oo 46 (.ext (.t 39) 0), oo 47 (.ext (.t 39) 1), oo 6 (.asg (.t 46)), oo 7 (.asg (.t 47))]
def r_ingotlaw21_FootPairs_13 := rg r_ingotlaw21_FootPairs_13_o [0, 3, 6, 7]
@[go_sem] theorem r_ingotlaw21_FootPairs_13_u : Gr X K s r_ingotlaw21_FootPairs_13 r_ingotlaw21_FootPairs_13_o [0, 3, 6, 7] := go_region _ _
@[go_sem] def r_ingotlaw21_FootPairs_14_o : Ops := [
oo 48 (.mv (.t 0)), oo 49 (.len false (.t 48)), oo 50 (.bin .gtr (.t 49) (ci 32))]
def r_ingotlaw21_FootPairs_14 := rg r_ingotlaw21_FootPairs_14_o [0, 3, 6, 7, 50]
@[go_sem] theorem r_ingotlaw21_FootPairs_14_u : Gr X K s r_ingotlaw21_FootPairs_14 r_ingotlaw21_FootPairs_14_o [0, 3, 6, 7, 50] := go_region _ _
@[go_sem] def r_ingotlaw21_FootPairs_15_o : Ops := [
oo 51 (.mv (.t 7)), oo 52 (.bin .eql (.t 51) (ci 1)), oo 53 (.mv (.t 52)), og 54 53 true (.mv (.t 6)), og 55 53 true (.len false (.t 54)), og 56 53 true (.bin .eql (.t 55) (ci 0)), oo 57 (.pick (.t 53) (.t 56) (.c (.bool false))), oo 2 (.asg (.t 57))]
def r_ingotlaw21_FootPairs_15 := rg r_ingotlaw21_FootPairs_15_o [2]
@[go_sem] theorem r_ingotlaw21_FootPairs_15_u : Gr X K s r_ingotlaw21_FootPairs_15 r_ingotlaw21_FootPairs_15_o [2] := go_region _ _
@[go_sem] def r_ingotlaw21_FootPairs_16_o : Ops := [
oo 59 (.mv (.t 6)), oo 60 (.call false n_foot_Decode [(.t 59)]), oo 58 (.mv (.t 60)), oo 61 (.ext (.t 58) 0), oo 62 (.ext (.t 58) 1), oo 8 (.alloc [(.int .i64 0), .nilS, (.int .i64 0), .nilS, .nilS, (.int .i64 0), (.int .i64 0), (.int .i64 0), .nilS, (.int .i64 0), .nilS, (.int .i64 0)]), ow (.store 12 (.t 8) (.t 61)), oo 9 (.asg (.t 62))]
def r_ingotlaw21_FootPairs_16 := rg r_ingotlaw21_FootPairs_16_o [0, 3, 7, 8, 9]
@[go_sem] theorem r_ingotlaw21_FootPairs_16_u : Gr X K s r_ingotlaw21_FootPairs_16 r_ingotlaw21_FootPairs_16_o [0, 3, 7, 8, 9] := go_region _ _
@[go_sem] def r_ingotlaw21_FootPairs_17_o : Ops := [
oo 63 (.mv (.t 7)), oo 64 (.mv (.t 9)), oo 65 (.bin .add (.t 63) (.t 64)), oo 66 (.bin .neq (.t 65) (ci 0)), oo 67 (.mv (.t 66)), og 68 67 false (.fieldA 8 (.t 8)), og 69 67 false (.load none (.t 68)), og 70 67 false (.len false (.t 69)), og 71 67 false (.mv (.t 0)), og 72 67 false (.len false (.t 71)), og 73 67 false (.bin .neq (.t 70) (.t 72)), oo 74 (.pick (.t 67) (.c (.bool true)) (.t 73))]
def r_ingotlaw21_FootPairs_17 := rg r_ingotlaw21_FootPairs_17_o [0, 3, 8, 74]
@[go_sem] theorem r_ingotlaw21_FootPairs_17_u : Gr X K s r_ingotlaw21_FootPairs_17 r_ingotlaw21_FootPairs_17_o [0, 3, 8, 74] := go_region _ _
@[go_sem] def r_ingotlaw21_FootPairs_18_o : Ops := [
oo 2 (.asg (.c (.bool false)))]
def r_ingotlaw21_FootPairs_18 := rg r_ingotlaw21_FootPairs_18_o [2]
@[go_sem] theorem r_ingotlaw21_FootPairs_18_u : Gr X K s r_ingotlaw21_FootPairs_18 r_ingotlaw21_FootPairs_18_o [2] := go_region _ _
@[go_sem] def r_ingotlaw21_FootPairs_19_o : Ops := [
oo 10 (.asg (ci 0))]
def r_ingotlaw21_FootPairs_19 := rg r_ingotlaw21_FootPairs_19_o [0, 3, 8, 10]
@[go_sem] theorem r_ingotlaw21_FootPairs_19_u : Gr X K s r_ingotlaw21_FootPairs_19 r_ingotlaw21_FootPairs_19_o [0, 3, 8, 10] := go_region _ _
@[go_sem] def r_ingotlaw21_FootPairs_20_o : Ops := [
oo 75 (.mv (.t 10)), oo 76 (.mv (.t 0)), oo 77 (.len false (.t 76)), oo 78 (.bin .lss (.t 75) (.t 77))]
def r_ingotlaw21_FootPairs_20 := rg r_ingotlaw21_FootPairs_20_o [0, 3, 8, 10, 78]
@[go_sem] theorem r_ingotlaw21_FootPairs_20_u : Gr X K s r_ingotlaw21_FootPairs_20 r_ingotlaw21_FootPairs_20_o [0, 3, 8, 10, 78] := go_region _ _
@[go_sem] def r_ingotlaw21_FootPairs_21_o : Ops := [
oo 81 (.fieldA 8 (.t 8)), oo 82 (.load none (.t 81)), oo 83 (.mv (.t 10)), oo 84 (.idxA 2 (.t 82) (.t 83)), oo 85 (.fieldA 0 (.t 84)), oo 86 (.load none (.t 85)), oo 87 (.mv (.t 0)), oo 88 (.mv (.t 10)), oo 89 (.idxA 2 (.t 87) (.t 88)), oo 90 (.fieldA 0 (.t 89)), oo 91 (.load none (.t 90)), oo 92 (.bin .neq (.t 86) (.t 91)), oo 93 (.mv (.t 92)), og 94 93 false (.fieldA 8 (.t 8)), og 95 93 false (.load none (.t 94)), og 96 93 false (.mv (.t 10)), og 97 93 false (.idxA 2 (.t 95) (.t 96)), og 98 93 false (.fieldA 1 (.t 97)), og 99 93 false (.load none (.t 98)), og 100 93 false (.b2s (.t 99)), og 101 93 false (.mv (.t 0)), og 102 93 false (.mv (.t 10)), og 103 93 false (.idxA 2 (.t 101) (.t 102)), og 104 93 false (.fieldA 1 (.t 103)), og 105 93 false (.load none (.t 104)), og 106 93 false (.b2s (.t 105)), og 107 93 false (.bin .neq (.t 100) (.t 106)), oo 108 (.pick (.t 93) (.c (.bool true)) (.t 107))]
def r_ingotlaw21_FootPairs_21_n : List (Nat × Nat) := [(0, 2), (1, 2), (0, 6), (1, 6), (2, 6), (3, 6), (4, 6), (5, 6), (0, 7), (1, 7), (2, 7), (3, 7), (4, 7), (5, 7), (6, 7), (0, 8), (1, 8), (2, 8), (3, 8), (4, 8), (5, 8), (0, 9), (1, 9), (2, 9), (3, 9), (4, 9), (5, 9), (0, 10), (1, 10), (2, 10), (3, 10), (4, 10), (5, 10), (13, 15), (14, 15), (13, 20), (14, 20), (15, 20), (16, 20), (17, 20), (18, 20), (19, 20), (13, 21), (14, 21), (15, 21), (16, 21), (17, 21), (18, 21), (19, 21), (20, 21), (13, 22), (14, 22), (15, 22), (16, 22), (17, 22), (18, 22), (19, 22), (13, 23), (14, 23), (15, 23), (16, 23), (17, 23), (18, 23), (19, 23), (13, 24), (14, 24), (15, 24), (16, 24), (17, 24), (18, 24), (19, 24), (13, 25), (14, 25), (15, 25), (16, 25), (17, 25), (18, 25), (19, 25)]
def r_ingotlaw21_FootPairs_21 : ICode := .region r_ingotlaw21_FootPairs_21_o r_ingotlaw21_FootPairs_21_n [0, 3, 8, 10, 108]
@[go_sem] theorem r_ingotlaw21_FootPairs_21_u : go X (.c r_ingotlaw21_FootPairs_21 :: K) s = goRU X [] r_ingotlaw21_FootPairs_21_n r_ingotlaw21_FootPairs_21_o [0, 3, 8, 10, 108] K s := go_regionU' _ _ _ _
@[go_sem] def r_ingotlaw21_FootPairs_22_o : Ops := [
oo 2 (.asg (.c (.bool false)))]
def r_ingotlaw21_FootPairs_22 := rg r_ingotlaw21_FootPairs_22_o [2]
@[go_sem] theorem r_ingotlaw21_FootPairs_22_u : Gr X K s r_ingotlaw21_FootPairs_22 r_ingotlaw21_FootPairs_22_o [2] := go_region _ _
@[go_sem] def r_ingotlaw21_FootPairs_23_o : Ops := [
oo 109 (.mv (.t 3)), oo 110 (.bin .add (.t 109) (ci 1)), oo 3 (.asg (.t 110))]
def r_ingotlaw21_FootPairs_23 := rg r_ingotlaw21_FootPairs_23_o [0, 3, 8, 10]
@[go_sem] theorem r_ingotlaw21_FootPairs_23_u : Gr X K s r_ingotlaw21_FootPairs_23 r_ingotlaw21_FootPairs_23_o [0, 3, 8, 10] := go_region _ _
@[go_sem] def r_ingotlaw21_FootPairs_24_o : Ops := [
oo 79 (.mv (.t 10)), oo 80 (.bin .add (.t 79) (ci 1)), oo 10 (.asg (.t 80))]
def r_ingotlaw21_FootPairs_24 := rg r_ingotlaw21_FootPairs_24_o [0, 3, 8, 10]
@[go_sem] theorem r_ingotlaw21_FootPairs_24_u : Gr X K s r_ingotlaw21_FootPairs_24 r_ingotlaw21_FootPairs_24_o [0, 3, 8, 10] := go_region _ _
def b_ingotlaw21_FootPairs_25 : ICode := (.seq (.seq r_ingotlaw21_FootPairs_20 (.cond (.t 78) .skip (.exit 2))) (.seq (.block 3 (.seq (.seq r_ingotlaw21_FootPairs_21 (.cond (.t 108) (.seq r_ingotlaw21_FootPairs_22 .ret) .skip)) r_ingotlaw21_FootPairs_23)) r_ingotlaw21_FootPairs_24))
@[go_sem] theorem b_ingotlaw21_FootPairs_25_u : Gn X K s b_ingotlaw21_FootPairs_25 (.seq (.seq r_ingotlaw21_FootPairs_20 (.cond (.t 78) .skip (.exit 2))) (.seq (.block 3 (.seq (.seq r_ingotlaw21_FootPairs_21 (.cond (.t 108) (.seq r_ingotlaw21_FootPairs_22 .ret) .skip)) r_ingotlaw21_FootPairs_23)) r_ingotlaw21_FootPairs_24)) := rfl
@[go_sem] def r_ingotlaw21_FootPairs_26_o : Ops := [
oo 111 (.mv (.t 3)), oo 112 (.mv (.t 0)), oo 113 (.len false (.t 112)), oo 114 (.bin .eql (.t 111) (.t 113)), oo 2 (.asg (.t 114))]
def r_ingotlaw21_FootPairs_26 := rg r_ingotlaw21_FootPairs_26_o [2]
@[go_sem] theorem r_ingotlaw21_FootPairs_26_u : Gr X K s r_ingotlaw21_FootPairs_26 r_ingotlaw21_FootPairs_26_o [2] := go_region _ _
def c_ingotlaw21_FootPairs : ICode := (.seq r_ingotlaw21_FootPairs_0 (.seq r_ingotlaw21_FootPairs_1 (.cond (.t 12) (.seq r_ingotlaw21_FootPairs_2 .ret) (.seq r_ingotlaw21_FootPairs_3 (.cond (.t 15) (.seq r_ingotlaw21_FootPairs_4 .ret) (.seq r_ingotlaw21_FootPairs_5 (.seq (.seq r_ingotlaw21_FootPairs_6 (.block 0 (.loop b_ingotlaw21_FootPairs_11))) (.seq r_ingotlaw21_FootPairs_12 (.seq r_ingotlaw21_FootPairs_13 (.seq r_ingotlaw21_FootPairs_14 (.cond (.t 50) (.seq r_ingotlaw21_FootPairs_15 .ret) (.seq r_ingotlaw21_FootPairs_16 (.seq r_ingotlaw21_FootPairs_17 (.cond (.t 74) (.seq r_ingotlaw21_FootPairs_18 .ret) (.seq (.seq r_ingotlaw21_FootPairs_19 (.block 2 (.loop b_ingotlaw21_FootPairs_25))) (.seq r_ingotlaw21_FootPairs_26 .ret))))))))))))))))
def i_ingotlaw21_FootPairs : IFunc := ⟨1, [.t 2], c_ingotlaw21_FootPairs⟩
def a_ingotlaw21_FootPairs : Advice := ⟨[], [(24, [2]), (20, [0, 3, 8, 10]), (23, [0, 3, 8, 10]), (22, [2]), (21, [0, 3, 8, 10, 108]), (19, [0, 3, 8, 10, 78]), (18, [0, 3, 8, 10]), (17, [2]), (16, [0, 3, 8, 74]), (15, [0, 3, 7, 8, 9]), (14, [2]), (13, [0, 3, 6, 7, 50]), (12, [0, 3, 6, 7]), (11, [0, 3, 5]), (8, [0, 3, 4]), (10, [2]), (9, [0, 3, 4, 37]), (7, [0, 3, 4, 19]), (6, [0, 3, 4]), (5, [0, 3]), (4, [2]), (3, [0, 15]), (2, [2]), (1, [0, 12]), (0, [0])], [], [], [], []⟩
/-! ingot/ingotref21.PutTypes -/
@[go_sem] def r_ingotref21_PutTypes_0_o : Ops := [
oo 3 (.box 6 (.t 1)), oo 4 (.asg (.c .nilS))]
def r_ingotref21_PutTypes_0 := rg r_ingotref21_PutTypes_0_o [0, 3]
@[go_sem] theorem r_ingotref21_PutTypes_0_u : Gr X K s r_ingotref21_PutTypes_0 r_ingotref21_PutTypes_0_o [0, 3] := go_region _ _
@[go_sem] def r_ingotref21_PutTypes_1_o : Ops := [
oo 13 (.load (some 6) (.t 3)), oo 14 (.call false n_ingotref13_Flatten [(.t 13)]), oo 5 (.asg (.t 14))]
def r_ingotref21_PutTypes_1 := rg r_ingotref21_PutTypes_1_o [0, 5]
@[go_sem] theorem r_ingotref21_PutTypes_1_u : Gr X K s r_ingotref21_PutTypes_1 r_ingotref21_PutTypes_1_o [0, 5] := go_region _ _
@[go_sem] def r_ingotref21_PutTypes_2_o : Ops := [
oo 6 (.asg (ci 0))]
def r_ingotref21_PutTypes_2 := rg r_ingotref21_PutTypes_2_o [0, 5, 6]
@[go_sem] theorem r_ingotref21_PutTypes_2_u : Gr X K s r_ingotref21_PutTypes_2 r_ingotref21_PutTypes_2_o [0, 5, 6] := go_region _ _
@[go_sem] def r_ingotref21_PutTypes_3_o : Ops := [
oo 15 (.mv (.t 6)), oo 16 (.mv (.t 5)), oo 17 (.len false (.t 16)), oo 18 (.bin .lss (.t 15) (.t 17))]
def r_ingotref21_PutTypes_3 := rg r_ingotref21_PutTypes_3_o [0, 5, 6, 18]
@[go_sem] theorem r_ingotref21_PutTypes_3_u : Gr X K s r_ingotref21_PutTypes_3 r_ingotref21_PutTypes_3_o [0, 5, 6, 18] := go_region _ _
@[go_sem] def r_ingotref21_PutTypes_4_o : Ops := [
oo 21 (.mv (.t 5)), oo 22 (.mv (.t 6)), oo 23 (.idxA 9 (.t 21) (.t 22)), oo 24 (.fieldA 0 (.t 23)), oo 25 (.fieldA 0 (.t 24)), oo 26 (.load none (.t 25)), oo 27 (.cvInt .u64 (.t 26)), oo 28 (.callg true n_ingotref3_PutUint [(.c .nilS), (ci 1), (.t 27)] 0), oo 7 (.asg (.t 28))]
def r_ingotref21_PutTypes_4 := rg r_ingotref21_PutTypes_4_o [0, 5, 6, 7]
@[go_sem] theorem r_ingotref21_PutTypes_4_u : Gr X K s r_ingotref21_PutTypes_4 r_ingotref21_PutTypes_4_o [0, 5, 6, 7] := go_region _ _
@[go_sem] def r_ingotref21_PutTypes_5_o : Ops := [
oo 8 (.asg (.c .nilS))]
def r_ingotref21_PutTypes_5 := rg r_ingotref21_PutTypes_5_o [0, 5, 6, 7, 8]
@[go_sem] theorem r_ingotref21_PutTypes_5_u : Gr X K s r_ingotref21_PutTypes_5 r_ingotref21_PutTypes_5_o [0, 5, 6, 7, 8] := go_region _ _
@[go_sem] def r_ingotref21_PutTypes_6_o : Ops := [
oo 9 (.asg (ci 0))]
def r_ingotref21_PutTypes_6 := rg r_ingotref21_PutTypes_6_o [0, 5, 6, 7, 8, 9]
@[go_sem] theorem r_ingotref21_PutTypes_6_u : Gr X K s r_ingotref21_PutTypes_6 r_ingotref21_PutTypes_6_o [0, 5, 6, 7, 8, 9] := go_region _ _
@[go_sem] def r_ingotref21_PutTypes_7_o : Ops := [
oo 29 (.mv (.t 9)), oo 30 (.mv (.t 5)), oo 31 (.mv (.t 6)), oo 32 (.idxA 9 (.t 30) (.t 31)), oo 33 (.fieldA 6 (.t 32)), oo 34 (.load none (.t 33)), oo 35 (.len false (.t 34)), oo 36 (.bin .lss (.t 29) (.t 35))]
def r_ingotref21_PutTypes_7 := rg r_ingotref21_PutTypes_7_o [0, 5, 6, 7, 8, 9, 36]
@[go_sem] theorem r_ingotref21_PutTypes_7_u : Gr X K s r_ingotref21_PutTypes_7 r_ingotref21_PutTypes_7_o [0, 5, 6, 7, 8, 9, 36] := go_region _ _
@[go_sem] def r_ingotref21_PutTypes_8_o : Ops := [
oo 39 (.mv (.t 8)), oo 40 (.mv (.t 5)), oo 41 (.mv (.t 6)), oo 42 (.idxA 9 (.t 40) (.t 41)), oo 43 (.fieldA 6 (.t 42)), oo 44 (.load none (.t 43)), oo 45 (.mv (.t 9)), oo 46 (.idxA 1 (.t 44) (.t 45)), oo 47 (.load none (.t 46)), oo 48 (.cvInt .u64 (.t 47)), oo 49 (.callg true n_ingotref1_PutVar [(.t 39), (.t 48)] 0), oo 8 (.asg (.t 49))]
def r_ingotref21_PutTypes_8 := rg r_ingotref21_PutTypes_8_o [0, 5, 6, 7, 8, 9]
@[go_sem] theorem r_ingotref21_PutTypes_8_u : Gr X K s r_ingotref21_PutTypes_8 r_ingotref21_PutTypes_8_o [0, 5, 6, 7, 8, 9] := go_region _ _
@[go_sem] def r_ingotref21_PutTypes_9_o : Ops := [
oo 37 (.mv (.t 9)), oo 38 (.bin .add (.t 37) (ci 1)), oo 9 (.asg (.t 38))]
def r_ingotref21_PutTypes_9 := rg r_ingotref21_PutTypes_9_o [0, 5, 6, 7, 8, 9]
@[go_sem] theorem r_ingotref21_PutTypes_9_u : Gr X K s r_ingotref21_PutTypes_9 r_ingotref21_PutTypes_9_o [0, 5, 6, 7, 8, 9] := go_region _ _
def b_ingotref21_PutTypes_10 : ICode := (.seq (.seq r_ingotref21_PutTypes_7 (.cond (.t 36) .skip (.exit 2))) (.seq (.block 3 r_ingotref21_PutTypes_8) r_ingotref21_PutTypes_9))
@[go_sem] theorem b_ingotref21_PutTypes_10_u : Gn X K s b_ingotref21_PutTypes_10 (.seq (.seq r_ingotref21_PutTypes_7 (.cond (.t 36) .skip (.exit 2))) (.seq (.block 3 r_ingotref21_PutTypes_8) r_ingotref21_PutTypes_9)) := rfl
@[go_sem] def r_ingotref21_PutTypes_11_o : Ops := [
oo 50 (.mv (.t 8)), oo 51 (.len false (.t 50)), oo 52 (.bin .gtr (.t 51) (ci 0))]
def r_ingotref21_PutTypes_11 := rg r_ingotref21_PutTypes_11_o [0, 5, 6, 7, 8, 52]
@[go_sem] theorem r_ingotref21_PutTypes_11_u : Gr X K s r_ingotref21_PutTypes_11 r_ingotref21_PutTypes_11_o [0, 5, 6, 7, 8, 52] := go_region _ _
@[go_sem] def r_ingotref21_PutTypes_12_o : Ops := [
oo 53 (.mv (.t 7)), oo 54 (.mv (.t 8)), oo 55 (.callg true n_ingotref3_PutBytes [(.t 53), (ci 2), (.t 54)] 0), oo 7 (.asg (.t 55))]
def r_ingotref21_PutTypes_12 := rg r_ingotref21_PutTypes_12_o [0, 5, 6, 7]
@[go_sem] theorem r_ingotref21_PutTypes_12_u : Gr X K s r_ingotref21_PutTypes_12 r_ingotref21_PutTypes_12_o [0, 5, 6, 7] := go_region _ _
@[go_sem] def r_ingotref21_PutTypes_13_o : Ops := [
oo 10 (.asg (ci 0))]
def r_ingotref21_PutTypes_13 := rg r_ingotref21_PutTypes_13_o [0, 5, 6, 7, 10]
@[go_sem] theorem r_ingotref21_PutTypes_13_u : Gr X K s r_ingotref21_PutTypes_13 r_ingotref21_PutTypes_13_o [0, 5, 6, 7, 10] := go_region _ _
@[go_sem] def r_ingotref21_PutTypes_14_o : Ops := [
oo 56 (.mv (.t 10)), oo 57 (.mv (.t 5)), oo 58 (.mv (.t 6)), oo 59 (.idxA 9 (.t 57) (.t 58)), oo 60 (.fieldA 0 (.t 59)), oo 61 (.fieldA 1 (.t 60)), oo 62 (.load none (.t 61)), oo 63 (.len false (.t 62)), oo 64 (.bin .lss (.t 56) (.t 63))]
def r_ingotref21_PutTypes_14 := rg r_ingotref21_PutTypes_14_o [0, 5, 6, 7, 10, 64]
@[go_sem] theorem r_ingotref21_PutTypes_14_u : Gr X K s r_ingotref21_PutTypes_14 r_ingotref21_PutTypes_14_o [0, 5, 6, 7, 10, 64] := go_region _ _
@[go_sem] def r_ingotref21_PutTypes_15_o : Ops := [
oo 67 (.mv (.t 7)), oo 68 (.mv (.t 5)), oo 69 (.mv (.t 6)), oo 70 (.idxA 9 (.t 68) (.t 69)), oo 71 (.fieldA 0 (.t 70)), oo 72 (.fieldA 1 (.t 71)), oo 73 (.load none (.t 72)), oo 74 (.mv (.t 10)), oo 75 (.idxA 1 (.t 73) (.t 74)), oo 76 (.load none (.t 75)), oo 77 (.s2b false (.t 76)), oo 78 (.callg true n_ingotref3_PutBytes [(.t 67), (ci 3), (.t 77)] 0), oo 7 (.asg (.t 78))]
def r_ingotref21_PutTypes_15 := rg r_ingotref21_PutTypes_15_o [0, 5, 6, 7, 10]
@[go_sem] theorem r_ingotref21_PutTypes_15_u : Gr X K s r_ingotref21_PutTypes_15 r_ingotref21_PutTypes_15_o [0, 5, 6, 7, 10] := go_region _ _
@[go_sem] def r_ingotref21_PutTypes_16_o : Ops := [
oo 65 (.mv (.t 10)), oo 66 (.bin .add (.t 65) (ci 1)), oo 10 (.asg (.t 66))]
def r_ingotref21_PutTypes_16 := rg r_ingotref21_PutTypes_16_o [0, 5, 6, 7, 10]
@[go_sem] theorem r_ingotref21_PutTypes_16_u : Gr X K s r_ingotref21_PutTypes_16 r_ingotref21_PutTypes_16_o [0, 5, 6, 7, 10] := go_region _ _
def b_ingotref21_PutTypes_17 : ICode := (.seq (.seq r_ingotref21_PutTypes_14 (.cond (.t 64) .skip (.exit 4))) (.seq (.block 5 r_ingotref21_PutTypes_15) r_ingotref21_PutTypes_16))
@[go_sem] theorem b_ingotref21_PutTypes_17_u : Gn X K s b_ingotref21_PutTypes_17 (.seq (.seq r_ingotref21_PutTypes_14 (.cond (.t 64) .skip (.exit 4))) (.seq (.block 5 r_ingotref21_PutTypes_15) r_ingotref21_PutTypes_16)) := rfl
@[go_sem] def r_ingotref21_PutTypes_18_o : Ops := [
oo 11 (.asg (ci 0))]
def r_ingotref21_PutTypes_18 := rg r_ingotref21_PutTypes_18_o [0, 5, 6, 7, 11]
@[go_sem] theorem r_ingotref21_PutTypes_18_u : Gr X K s r_ingotref21_PutTypes_18 r_ingotref21_PutTypes_18_o [0, 5, 6, 7, 11] := go_region _ _
@[go_sem] def r_ingotref21_PutTypes_19_o : Ops := [
oo 79 (.mv (.t 11)), oo 80 (.bin .lss (.t 79) (ci 3))]
def r_ingotref21_PutTypes_19 := rg r_ingotref21_PutTypes_19_o [0, 5, 6, 7, 11, 80]
@[go_sem] theorem r_ingotref21_PutTypes_19_u : Gr X K s r_ingotref21_PutTypes_19 r_ingotref21_PutTypes_19_o [0, 5, 6, 7, 11, 80] := go_region _ _
@[go_sem] def r_ingotref21_PutTypes_20_o : Ops := [
oo 83 (.mv (.t 5)), oo 84 (.mv (.t 6)), oo 85 (.idxA 9 (.t 83) (.t 84)), oo 86 (.fieldA 0 (.t 85)), oo 87 (.fieldA 3 (.t 86)), oo 88 (.load none (.t 87)), oo 89 (.mv (.t 5)), oo 90 (.mv (.t 6)), oo 91 (.idxA 9 (.t 89) (.t 90)), oo 92 (.fieldA 0 (.t 91)), oo 93 (.fieldA 4 (.t 92)), oo 94 (.load none (.t 93)), oo 95 (.mv (.t 5)), oo 96 (.mv (.t 6)), oo 97 (.idxA 9 (.t 95) (.t 96)), oo 98 (.fieldA 0 (.t 97)), oo 99 (.fieldA 5 (.t 98)), oo 100 (.load none (.t 99)), oo 101 (.lit false 1 3 (.int .i64 0) [(0, (.t 88)), (1, (.t 94)), (2, (.t 100))]), oo 102 (.mv (.t 11)), oo 103 (.idxA 1 (.t 101) (.t 102)), oo 104 (.load none (.t 103)), oo 12 (.asg (.t 104))]
def r_ingotref21_PutTypes_20_n : List (Nat × Nat) := [(0, 1), (0, 6), (1, 6), (2, 6), (3, 6), (4, 6), (5, 6), (0, 7), (1, 7), (2, 7), (3, 7), (4, 7), (5, 7), (6, 7), (0, 8), (1, 8), (2, 8), (3, 8), (4, 8), (5, 8), (0, 9), (1, 9), (2, 9), (3, 9), (4, 9), (5, 9), (0, 10), (1, 10), (2, 10), (3, 10), (4, 10), (5, 10), (0, 11), (1, 11), (2, 11), (3, 11), (4, 11), (5, 11), (0, 12), (1, 12), (2, 12), (3, 12), (4, 12), (5, 12), (6, 12), (7, 12), (8, 12), (9, 12), (10, 12), (11, 12), (0, 13), (1, 13), (2, 13), (3, 13), (4, 13), (5, 13), (6, 13), (7, 13), (8, 13), (9, 13), (10, 13), (11, 13), (12, 13), (0, 14), (1, 14), (2, 14), (3, 14), (4, 14), (5, 14), (6, 14), (7, 14), (8, 14), (9, 14), (10, 14), (11, 14), (0, 15), (1, 15), (2, 15), (3, 15), (4, 15), (5, 15), (6, 15), (7, 15), (8, 15), (9, 15), (10, 15), (11, 15), (0, 16), (1, 16), (2, 16), (3, 16), (4, 16), (5, 16), (6, 16), (7, 16), (8, 16), (9, 16), (10, 16), (11, 16), (0, 17), (1, 17), (2, 17), (3, 17), (4, 17), (5, 17), (6, 17), (7, 17), (8, 17), (9, 17), (10, 17), (11, 17), (0, 19), (1, 19), (2, 19), (3, 19), (4, 19), (5, 19), (6, 19), (7, 19), (8, 19), (9, 19), (10, 19), (11, 19), (12, 19), (13, 19), (14, 19), (15, 19), (16, 19), (17, 19), (18, 19)]
def r_ingotref21_PutTypes_20 : ICode := .region r_ingotref21_PutTypes_20_o r_ingotref21_PutTypes_20_n [0, 5, 6, 7, 11, 12]
@[go_sem] theorem r_ingotref21_PutTypes_20_u : go X (.c r_ingotref21_PutTypes_20 :: K) s = goRU X [] r_ingotref21_PutTypes_20_n r_ingotref21_PutTypes_20_o [0, 5, 6, 7, 11, 12] K s := go_regionU' _ _ _ _
@[go_sem] def r_ingotref21_PutTypes_21_o : Ops := [
oo 105 (.mv (.t 12)), oo 106 (.bin .neq (.t 105) (ci 0))]
def r_ingotref21_PutTypes_21 := rg r_ingotref21_PutTypes_21_o [0, 5, 6, 7, 11, 12, 106]
@[go_sem] theorem r_ingotref21_PutTypes_21_u : Gr X K s r_ingotref21_PutTypes_21 r_ingotref21_PutTypes_21_o [0, 5, 6, 7, 11, 12, 106] := go_region _ _
@[go_sem] def r_ingotref21_PutTypes_22_o : Ops := [
oo 107 (.mv (.t 7)), oo 108 (.mv (.t 11)), oo 109 (.bin .add (ci 4) (.t 108)), oo 110 (.mv (.t 12)), oo 111 (.cvInt .u64 (.t 110)), oo 112 (.callg true n_ingotref3_PutUint [(.t 107), (.t 109), (.t 111)] 0), oo 7 (.asg (.t 112))]
def r_ingotref21_PutTypes_22 := rg r_ingotref21_PutTypes_22_o [0, 5, 6, 7, 11]
@[go_sem] theorem r_ingotref21_PutTypes_22_u : Gr X K s r_ingotref21_PutTypes_22 r_ingotref21_PutTypes_22_o [0, 5, 6, 7, 11] := go_region _ _
@[go_sem] def r_ingotref21_PutTypes_23_o : Ops := [
oo 81 (.mv (.t 11)), oo 82 (.bin .add (.t 81) (ci 1)), oo 11 (.asg (.t 82))]
def r_ingotref21_PutTypes_23 := rg r_ingotref21_PutTypes_23_o [0, 5, 6, 7, 11]
@[go_sem] theorem r_ingotref21_PutTypes_23_u : Gr X K s r_ingotref21_PutTypes_23 r_ingotref21_PutTypes_23_o [0, 5, 6, 7, 11] := go_region _ _
def b_ingotref21_PutTypes_24 : ICode := (.seq (.seq r_ingotref21_PutTypes_19 (.cond (.t 80) .skip (.exit 6))) (.seq (.block 7 (.seq r_ingotref21_PutTypes_20 (.seq r_ingotref21_PutTypes_21 (.cond (.t 106) r_ingotref21_PutTypes_22 .skip)))) r_ingotref21_PutTypes_23))
@[go_sem] theorem b_ingotref21_PutTypes_24_u : Gn X K s b_ingotref21_PutTypes_24 (.seq (.seq r_ingotref21_PutTypes_19 (.cond (.t 80) .skip (.exit 6))) (.seq (.block 7 (.seq r_ingotref21_PutTypes_20 (.seq r_ingotref21_PutTypes_21 (.cond (.t 106) r_ingotref21_PutTypes_22 .skip)))) r_ingotref21_PutTypes_23)) := rfl
@[go_sem] def r_ingotref21_PutTypes_25_o : Ops := [
oo 113 (.mv (.t 0)), oo 114 (.mv (.t 7)), oo 115 (.callg true n_ingotref3_PutBytes [(.t 113), (ci 4), (.t 114)] 0), oo 0 (.asg (.t 115))]
def r_ingotref21_PutTypes_25 := rg r_ingotref21_PutTypes_25_o [0, 5, 6]
@[go_sem] theorem r_ingotref21_PutTypes_25_u : Gr X K s r_ingotref21_PutTypes_25 r_ingotref21_PutTypes_25_o [0, 5, 6] := go_region _ _
@[go_sem] def r_ingotref21_PutTypes_26_o : Ops := [
oo 19 (.mv (.t 6)), oo 20 (.bin .add (.t 19) (ci 1)), oo 6 (.asg (.t 20))]
def r_ingotref21_PutTypes_26 := rg r_ingotref21_PutTypes_26_o [0, 5, 6]
@[go_sem] theorem r_ingotref21_PutTypes_26_u : Gr X K s r_ingotref21_PutTypes_26 r_ingotref21_PutTypes_26_o [0, 5, 6] := go_region _ _
def b_ingotref21_PutTypes_27 : ICode := (.seq (.seq r_ingotref21_PutTypes_3 (.cond (.t 18) .skip (.exit 0))) (.seq (.block 1 (.seq r_ingotref21_PutTypes_4 (.seq r_ingotref21_PutTypes_5 (.seq (.seq r_ingotref21_PutTypes_6 (.block 2 (.loop b_ingotref21_PutTypes_10))) (.seq (.seq r_ingotref21_PutTypes_11 (.cond (.t 52) r_ingotref21_PutTypes_12 .skip)) (.seq (.seq r_ingotref21_PutTypes_13 (.block 4 (.loop b_ingotref21_PutTypes_17))) (.seq (.seq r_ingotref21_PutTypes_18 (.block 6 (.loop b_ingotref21_PutTypes_24))) r_ingotref21_PutTypes_25))))))) r_ingotref21_PutTypes_26))
@[go_sem] theorem b_ingotref21_PutTypes_27_u : Gn X K s b_ingotref21_PutTypes_27 (.seq (.seq r_ingotref21_PutTypes_3 (.cond (.t 18) .skip (.exit 0))) (.seq (.block 1 (.seq r_ingotref21_PutTypes_4 (.seq r_ingotref21_PutTypes_5 (.seq (.seq r_ingotref21_PutTypes_6 (.block 2 (.loop b_ingotref21_PutTypes_10))) (.seq (.seq r_ingotref21_PutTypes_11 (.cond (.t 52) r_ingotref21_PutTypes_12 .skip)) (.seq (.seq r_ingotref21_PutTypes_13 (.block 4 (.loop b_ingotref21_PutTypes_17))) (.seq (.seq r_ingotref21_PutTypes_18 (.block 6 (.loop b_ingotref21_PutTypes_24))) r_ingotref21_PutTypes_25))))))) r_ingotref21_PutTypes_26)) := rfl
@[go_sem] def r_ingotref21_PutTypes_28_o : Ops := [
oo 116 (.mv (.t 0)), oo 4 (.asg (.t 116))]
def r_ingotref21_PutTypes_28 := rg r_ingotref21_PutTypes_28_o [4]
@[go_sem] theorem r_ingotref21_PutTypes_28_u : Gr X K s r_ingotref21_PutTypes_28 r_ingotref21_PutTypes_28_o [4] := go_region _ _
def c_ingotref21_PutTypes : ICode := (.seq r_ingotref21_PutTypes_0 (.seq r_ingotref21_PutTypes_1 (.seq (.seq r_ingotref21_PutTypes_2 (.block 0 (.loop b_ingotref21_PutTypes_27))) (.seq r_ingotref21_PutTypes_28 .ret))))
def i_ingotref21_PutTypes : IFunc := ⟨2, [.t 4], c_ingotref21_PutTypes⟩
def a_ingotref21_PutTypes : Advice := ⟨[28, 49, 55, 78, 112, 115], [(24, [4]), (4, [0, 5, 6]), (23, [0, 5, 6]), (19, [0, 5, 6, 7, 11]), (22, [0, 5, 6, 7, 11]), (21, [0, 5, 6, 7, 11, 12, 106]), (20, [0, 5, 6, 7, 11, 12]), (18, [0, 5, 6, 7, 11, 80]), (17, [0, 5, 6, 7, 11]), (15, [0, 5, 6, 7, 10]), (16, [0, 5, 6, 7, 10]), (14, [0, 5, 6, 7, 10, 64]), (13, [0, 5, 6, 7, 10]), (12, [0, 5, 6, 7]), (11, [0, 5, 6, 7, 8, 52]), (9, [0, 5, 6, 7, 8, 9]), (10, [0, 5, 6, 7, 8, 9]), (8, [0, 5, 6, 7, 8, 9, 36]), (7, [0, 5, 6, 7, 8, 9]), (6, [0, 5, 6, 7, 8]), (5, [0, 5, 6, 7]), (3, [0, 5, 6, 18]), (2, [0, 5, 6]), (1, [0, 5]), (0, [0, 3])], [], [], [(28, 0), (49, 0), (55, 0), (78, 0), (112, 0), (115, 0)], []⟩
/-! ingot/ingotref3.PutBytes -/
@[go_sem] def r_ingotref3_PutBytes_0_o : Ops := [
oo 6 (.asg (.c .nilS))]
def r_ingotref3_PutBytes_0 := rg r_ingotref3_PutBytes_0_o [0, 1, 2]
@[go_sem] theorem r_ingotref3_PutBytes_0_u : Gr X K s r_ingotref3_PutBytes_0 r_ingotref3_PutBytes_0_o [0, 1, 2] := go_region _ _
@[go_sem] def r_ingotref3_PutBytes_1_o : Ops := [
oo 7 (.mv (.t 1)), oo 8 (.call false n_ingotref3_may [(.t 7)]), oo 9 (.un .not (.t 8))]
def r_ingotref3_PutBytes_1 := rg r_ingotref3_PutBytes_1_o [0, 1, 2, 9]
@[go_sem] theorem r_ingotref3_PutBytes_1_u : Gr X K s r_ingotref3_PutBytes_1 r_ingotref3_PutBytes_1_o [0, 1, 2, 9] := go_region _ _
@[go_sem] def r_ingotref3_PutBytes_2_o : Ops := [
oo 10 (.mv (.t 0)), oo 6 (.asg (.t 10))]
def r_ingotref3_PutBytes_2 := rg r_ingotref3_PutBytes_2_o [6]
@[go_sem] theorem r_ingotref3_PutBytes_2_u : Gr X K s r_ingotref3_PutBytes_2 r_ingotref3_PutBytes_2_o [6] := go_region _ _
@[go_sem] def r_ingotref3_PutBytes_3_o : Ops := [
oo 11 (.mv (.t 0)), oo 12 (.mv (.t 1)), oo 13 (.cvInt .u64 (.t 12)), oo 14 (.bin .shl (.t 13) (.c (.int .u64 3))), oo 15 (.bin .or (.t 14) (.c (.int .u64 2))), oo 16 (.callg true n_ingotref1_PutVar [(.t 11), (.t 15)] 0), oo 17 (.mv (.t 2)), oo 18 (.len false (.t 17)), oo 19 (.cvInt .u64 (.t 18)), oo 20 (.callg true n_ingotref1_PutVar [(.t 16), (.t 19)] 0), oo 21 (.mv (.t 2)), oo 22 (.append 1 1 (.t 20) (.t 21)), oo 6 (.asg (.t 22))]
def r_ingotref3_PutBytes_3 := rg r_ingotref3_PutBytes_3_o [6]
@[go_sem] theorem r_ingotref3_PutBytes_3_u : Gr X K s r_ingotref3_PutBytes_3 r_ingotref3_PutBytes_3_o [6] := go_region _ _
def c_ingotref3_PutBytes : ICode := (.seq r_ingotref3_PutBytes_0 (.seq r_ingotref3_PutBytes_1 (.cond (.t 9) (.seq r_ingotref3_PutBytes_2 .ret) (.seq r_ingotref3_PutBytes_3 .ret))))
def i_ingotref3_PutBytes : IFunc := ⟨3, [.t 6], c_ingotref3_PutBytes⟩
def a_ingotref3_PutBytes : Advice := ⟨[16, 20], [(3, [6]), (2, [6]), (1, [0, 1, 2, 9]), (0, [0, 1, 2])], [], [], [(16, 0), (20, 0)], []⟩
/-! ingot/ingotref1.Zig -/
@[go_sem] def r_ingotref1_Zig_0_o : Ops := [
oo 2 (.asg (.c (.int .u64 0)))]
def r_ingotref1_Zig_0 := rg r_ingotref1_Zig_0_o [0]
@[go_sem] theorem r_ingotref1_Zig_0_u : Gr X K s r_ingotref1_Zig_0 r_ingotref1_Zig_0_o [0] := go_region _ _
@[go_sem] def r_ingotref1_Zig_1_o : Ops := [
oo 3 (.mv (.t 0)), oo 4 (.bin .lss (.t 3) (ci 0))]
def r_ingotref1_Zig_1 := rg r_ingotref1_Zig_1_o [0, 4]
@[go_sem] theorem r_ingotref1_Zig_1_u : Gr X K s r_ingotref1_Zig_1 r_ingotref1_Zig_1_o [0, 4] := go_region _ _
@[go_sem] def r_ingotref1_Zig_2_o : Ops := [
oo 5 (.mv (.t 0)), oo 6 (.bin .add (.t 5) (ci 1)), oo 7 (.bin .sub (ci 0) (.t 6)), oo 8 (.cvInt .u64 (.t 7)), oo 9 (.bin .shl (.t 8) (.c (.int .u64 1))), oo 10 (.bin .or (.t 9) (.c (.int .u64 1))), oo 2 (.asg (.t 10))]
def r_ingotref1_Zig_2 := rg r_ingotref1_Zig_2_o [2]
@[go_sem] theorem r_ingotref1_Zig_2_u : Gr X K s r_ingotref1_Zig_2 r_ingotref1_Zig_2_o [2] := go_region _ _
@[go_sem] def r_ingotref1_Zig_3_o : Ops := [
oo 11 (.mv (.t 0)), oo 12 (.cvInt .u64 (.t 11)), oo 13 (.bin .shl (.t 12) (.c (.int .u64 1))), oo 2 (.asg (.t 13))]
def r_ingotref1_Zig_3 := rg r_ingotref1_Zig_3_o [2]
@[go_sem] theorem r_ingotref1_Zig_3_u : Gr X K s r_ingotref1_Zig_3 r_ingotref1_Zig_3_o [2] := go_region _ _
def c_ingotref1_Zig : ICode := (.seq r_ingotref1_Zig_0 (.seq r_ingotref1_Zig_1 (.cond (.t 4) (.seq r_ingotref1_Zig_2 .ret) (.seq r_ingotref1_Zig_3 .ret))))
def i_ingotref1_Zig : IFunc := ⟨1, [.t 2], c_ingotref1_Zig⟩
def a_ingotref1_Zig : Advice := ⟨[], [(3, [2]), (2, [2]), (1, [0, 4]), (0, [0])], [], [], [], []⟩
/-! ingot/ingotref1.PutVar -/
@[go_sem] def r_ingotref1_PutVar_0_o : Ops := [
oo 4 (.asg (.c .nilS))]
def r_ingotref1_PutVar_0 := rg r_ingotref1_PutVar_0_o [0, 1]
@[go_sem] theorem r_ingotref1_PutVar_0_u : Gr X K s r_ingotref1_PutVar_0 r_ingotref1_PutVar_0_o [0, 1] := go_region _ _
@[go_sem] def r_ingotref1_PutVar_1_o : Ops := [
oo 5 (.mv (.t 1)), oo 6 (.bin .geq (.t 5) (.c (.int .u64 128)))]
def r_ingotref1_PutVar_1 := rg r_ingotref1_PutVar_1_o [0, 1, 6]
@[go_sem] theorem r_ingotref1_PutVar_1_u : Gr X K s r_ingotref1_PutVar_1 r_ingotref1_PutVar_1_o [0, 1, 6] := go_region _ _
@[go_sem] def r_ingotref1_PutVar_2_o : Ops := [
oo 7 (.mv (.t 0)), oo 8 (.mv (.t 1)), oo 9 (.bin .and (.t 8) (.c (.int .u64 127))), oo 10 (.bin .or (.t 9) (.c (.int .u64 128))), oo 11 (.cvInt .u8 (.t 10)), oo 12 (.lit false 1 1 (.int .u8 0) [(0, (.t 11))]), oo 13 (.append 1 1 (.t 7) (.t 12)), oo 0 (.asg (.t 13))]
def r_ingotref1_PutVar_2 := rg r_ingotref1_PutVar_2_o [0, 1]
@[go_sem] theorem r_ingotref1_PutVar_2_u : Gr X K s r_ingotref1_PutVar_2 r_ingotref1_PutVar_2_o [0, 1] := go_region _ _
@[go_sem] def r_ingotref1_PutVar_3_o : Ops := [
oo 14 (.mv (.t 1)), oo 15 (.bin .shr (.t 14) (.c (.int .u64 7))), oo 1 (.asg (.t 15))]
def r_ingotref1_PutVar_3 := rg r_ingotref1_PutVar_3_o [0, 1]
@[go_sem] theorem r_ingotref1_PutVar_3_u : Gr X K s r_ingotref1_PutVar_3 r_ingotref1_PutVar_3_o [0, 1] := go_region _ _
def b_ingotref1_PutVar_4 : ICode := (.seq (.seq r_ingotref1_PutVar_1 (.cond (.t 6) .skip (.exit 0))) (.block 1 (.seq r_ingotref1_PutVar_2 r_ingotref1_PutVar_3)))
@[go_sem] theorem b_ingotref1_PutVar_4_u : Gn X K s b_ingotref1_PutVar_4 (.seq (.seq r_ingotref1_PutVar_1 (.cond (.t 6) .skip (.exit 0))) (.block 1 (.seq r_ingotref1_PutVar_2 r_ingotref1_PutVar_3))) := rfl
@[go_sem] def r_ingotref1_PutVar_5_o : Ops := [
oo 16 (.mv (.t 0)), oo 17 (.mv (.t 1)), oo 18 (.cvInt .u8 (.t 17)), oo 19 (.lit false 1 1 (.int .u8 0) [(0, (.t 18))]), oo 20 (.append 1 1 (.t 16) (.t 19)), oo 4 (.asg (.t 20))]
def r_ingotref1_PutVar_5 := rg r_ingotref1_PutVar_5_o [4]
@[go_sem] theorem r_ingotref1_PutVar_5_u : Gr X K s r_ingotref1_PutVar_5 r_ingotref1_PutVar_5_o [4] := go_region _ _
def c_ingotref1_PutVar : ICode := (.seq r_ingotref1_PutVar_0 (.seq (.block 0 (.loop b_ingotref1_PutVar_4)) (.seq r_ingotref1_PutVar_5 .ret)))
def i_ingotref1_PutVar : IFunc := ⟨2, [.t 4], c_ingotref1_PutVar⟩
def a_ingotref1_PutVar : Advice := ⟨[13], [(4, [4]), (3, [0, 1]), (2, [0, 1]), (1, [0, 1, 6]), (0, [0, 1])], [], [], [], []⟩
/-! ingot/ingotref3.may -/
@[go_sem] def r_ingotref3_may_0_o : Ops := [
oo 2 (.asg (.c (.bool false)))]
def r_ingotref3_may_0 := rg r_ingotref3_may_0_o [0]
@[go_sem] theorem r_ingotref3_may_0_u : Gr X K s r_ingotref3_may_0 r_ingotref3_may_0_o [0] := go_region _ _
@[go_sem] def r_ingotref3_may_1_o : Ops := [
oo 3 (.mv (.t 0)), oo 4 (.bin .geq (.t 3) (ci 1)), oo 5 (.mv (.t 4)), og 6 5 true (.mv (.t 0)), og 7 5 true (.bin .leq (.t 6) (ci 536870911)), oo 8 (.pick (.t 5) (.t 7) (.c (.bool false))), oo 2 (.asg (.t 8))]
def r_ingotref3_may_1 := rg r_ingotref3_may_1_o [2]
@[go_sem] theorem r_ingotref3_may_1_u : Gr X K s r_ingotref3_may_1 r_ingotref3_may_1_o [2] := go_region _ _
def c_ingotref3_may : ICode := (.seq r_ingotref3_may_0 (.seq r_ingotref3_may_1 .ret))
def i_ingotref3_may : IFunc := ⟨1, [.t 2], c_ingotref3_may⟩
def a_ingotref3_may : Advice := ⟨[], [(1, [2]), (0, [0])], [], [], [], []⟩
/-! ingot/ingotref3.PutUint -/
@[go_sem] def r_ingotref3_PutUint_0_o : Ops := [
oo 6 (.asg (.c .nilS))]
def r_ingotref3_PutUint_0 := rg r_ingotref3_PutUint_0_o [0, 1, 2]
@[go_sem] theorem r_ingotref3_PutUint_0_u : Gr X K s r_ingotref3_PutUint_0 r_ingotref3_PutUint_0_o [0, 1, 2] := go_region _ _
@[go_sem] def r_ingotref3_PutUint_1_o : Ops := [
oo 7 (.mv (.t 1)), oo 8 (.call false n_ingotref3_may [(.t 7)]), oo 9 (.un .not (.t 8))]
def r_ingotref3_PutUint_1 := rg r_ingotref3_PutUint_1_o [0, 1, 2, 9]
@[go_sem] theorem r_ingotref3_PutUint_1_u : Gr X K s r_ingotref3_PutUint_1 r_ingotref3_PutUint_1_o [0, 1, 2, 9] := go_region _ _
@[go_sem] def r_ingotref3_PutUint_2_o : Ops := [
oo 10 (.mv (.t 0)), oo 6 (.asg (.t 10))]
def r_ingotref3_PutUint_2 := rg r_ingotref3_PutUint_2_o [6]
@[go_sem] theorem r_ingotref3_PutUint_2_u : Gr X K s r_ingotref3_PutUint_2 r_ingotref3_PutUint_2_o [6] := go_region _ _
@[go_sem] def r_ingotref3_PutUint_3_o : Ops := [
oo 11 (.mv (.t 0)), oo 12 (.mv (.t 1)), oo 13 (.cvInt .u64 (.t 12)), oo 14 (.bin .shl (.t 13) (.c (.int .u64 3))), oo 15 (.callg true n_ingotref1_PutVar [(.t 11), (.t 14)] 0), oo 16 (.mv (.t 2)), oo 17 (.callg true n_ingotref1_PutVar [(.t 15), (.t 16)] 0), oo 6 (.asg (.t 17))]
def r_ingotref3_PutUint_3 := rg r_ingotref3_PutUint_3_o [6]
@[go_sem] theorem r_ingotref3_PutUint_3_u : Gr X K s r_ingotref3_PutUint_3 r_ingotref3_PutUint_3_o [6] := go_region _ _
def c_ingotref3_PutUint : ICode := (.seq r_ingotref3_PutUint_0 (.seq r_ingotref3_PutUint_1 (.cond (.t 9) (.seq r_ingotref3_PutUint_2 .ret) (.seq r_ingotref3_PutUint_3 .ret))))
def i_ingotref3_PutUint : IFunc := ⟨3, [.t 6], c_ingotref3_PutUint⟩
def a_ingotref3_PutUint : Advice := ⟨[15, 17], [(3, [6]), (2, [6]), (1, [0, 1, 2, 9]), (0, [0, 1, 2])], [], [], [(15, 0), (17, 0)], []⟩
/-! ingot/ingotref1.Zag -/
@[go_sem] def r_ingotref1_Zag_0_o : Ops := [
oo 2 (.asg (ci 0))]
def r_ingotref1_Zag_0 := rg r_ingotref1_Zag_0_o [0]
@[go_sem] theorem r_ingotref1_Zag_0_u : Gr X K s r_ingotref1_Zag_0 r_ingotref1_Zag_0_o [0] := go_region _ _
@[go_sem] def r_ingotref1_Zag_1_o : Ops := [
oo 4 (.mv (.t 0)), oo 5 (.bin .shr (.t 4) (.c (.int .u64 1))), oo 6 (.cvInt .i64 (.t 5)), oo 3 (.asg (.t 6))]
def r_ingotref1_Zag_1 := rg r_ingotref1_Zag_1_o [0, 3]
@[go_sem] theorem r_ingotref1_Zag_1_u : Gr X K s r_ingotref1_Zag_1 r_ingotref1_Zag_1_o [0, 3] := go_region _ _
@[go_sem] def r_ingotref1_Zag_2_o : Ops := [
oo 7 (.mv (.t 0)), oo 8 (.bin .and (.t 7) (.c (.int .u64 1))), oo 9 (.bin .eql (.t 8) (.c (.int .u64 1)))]
def r_ingotref1_Zag_2 := rg r_ingotref1_Zag_2_o [3, 9]
@[go_sem] theorem r_ingotref1_Zag_2_u : Gr X K s r_ingotref1_Zag_2 r_ingotref1_Zag_2_o [3, 9] := go_region _ _
@[go_sem] def r_ingotref1_Zag_3_o : Ops := [
oo 10 (.mv (.t 3)), oo 11 (.bin .sub (ci 0) (.t 10)), oo 12 (.bin .sub (.t 11) (ci 1)), oo 2 (.asg (.t 12))]
def r_ingotref1_Zag_3 := rg r_ingotref1_Zag_3_o [2]
@[go_sem] theorem r_ingotref1_Zag_3_u : Gr X K s r_ingotref1_Zag_3 r_ingotref1_Zag_3_o [2] := go_region _ _
@[go_sem] def r_ingotref1_Zag_4_o : Ops := [
oo 13 (.mv (.t 3)), oo 2 (.asg (.t 13))]
def r_ingotref1_Zag_4 := rg r_ingotref1_Zag_4_o [2]
@[go_sem] theorem r_ingotref1_Zag_4_u : Gr X K s r_ingotref1_Zag_4 r_ingotref1_Zag_4_o [2] := go_region _ _
def c_ingotref1_Zag : ICode := (.seq r_ingotref1_Zag_0 (.seq r_ingotref1_Zag_1 (.seq r_ingotref1_Zag_2 (.cond (.t 9) (.seq r_ingotref1_Zag_3 .ret) (.seq r_ingotref1_Zag_4 .ret)))))
def i_ingotref1_Zag : IFunc := ⟨1, [.t 2], c_ingotref1_Zag⟩
def a_ingotref1_Zag : Advice := ⟨[], [(4, [2]), (3, [2]), (2, [3, 9]), (1, [0, 3]), (0, [0])], [], [], [], []⟩
/-! ingot/ingotref1.Var -/
@[go_sem] def r_ingotref1_Var_0_o : Ops := [
oo 4 (.asg (.c (.int .u64 0))), oo 5 (.asg (ci 0)), oo 6 (.asg (ci 0))]
def r_ingotref1_Var_0 := rg r_ingotref1_Var_0_o [0, 1]
@[go_sem] theorem r_ingotref1_Var_0_u : Gr X K s r_ingotref1_Var_0 r_ingotref1_Var_0_o [0, 1] := go_region _ _
@[go_sem] def r_ingotref1_Var_1_o : Ops := [
oo 10 (.mv (.t 1)), oo 11 (.bin .lss (.t 10) (ci 0)), oo 12 (.mv (.t 11)), og 13 12 false (.mv (.t 1)), og 14 12 false (.mv (.t 0)), og 15 12 false (.len false (.t 14)), og 16 12 false (.bin .gtr (.t 13) (.t 15)), oo 17 (.pick (.t 12) (.c (.bool true)) (.t 16))]
def r_ingotref1_Var_1 := rg r_ingotref1_Var_1_o [0, 1, 17]
@[go_sem] theorem r_ingotref1_Var_1_u : Gr X K s r_ingotref1_Var_1 r_ingotref1_Var_1_o [0, 1, 17] := go_region _ _
@[go_sem] def r_ingotref1_Var_2_o : Ops := [
oo 4 (.asg (.c (.int .u64 0))), oo 5 (.asg (ci 0)), oo 6 (.asg (ci 1))]
def r_ingotref1_Var_2 := rg r_ingotref1_Var_2_o [4, 5, 6]
@[go_sem] theorem r_ingotref1_Var_2_u : Gr X K s r_ingotref1_Var_2 r_ingotref1_Var_2_o [4, 5, 6] := go_region _ _
@[go_sem] def r_ingotref1_Var_3_o : Ops := [
oo 7 (.asg (.c (.int .u64 0)))]
def r_ingotref1_Var_3 := rg r_ingotref1_Var_3_o [0, 1, 7]
@[go_sem] theorem r_ingotref1_Var_3_u : Gr X K s r_ingotref1_Var_3 r_ingotref1_Var_3_o [0, 1, 7] := go_region _ _
@[go_sem] def r_ingotref1_Var_4_o : Ops := [
oo 8 (.asg (ci 0))]
def r_ingotref1_Var_4 := rg r_ingotref1_Var_4_o [0, 1, 7, 8]
@[go_sem] theorem r_ingotref1_Var_4_u : Gr X K s r_ingotref1_Var_4 r_ingotref1_Var_4_o [0, 1, 7, 8] := go_region _ _
@[go_sem] def r_ingotref1_Var_5_o : Ops := [
oo 18 (.mv (.t 8)), oo 19 (.bin .lss (.t 18) (ci 10))]
def r_ingotref1_Var_5 := rg r_ingotref1_Var_5_o [0, 1, 7, 8, 19]
@[go_sem] theorem r_ingotref1_Var_5_u : Gr X K s r_ingotref1_Var_5 r_ingotref1_Var_5_o [0, 1, 7, 8, 19] := go_region _ _
@[go_sem] def r_ingotref1_Var_6_o : Ops := [
oo 22 (.mv (.t 1)), oo 23 (.mv (.t 8)), oo 24 (.bin .add (.t 22) (.t 23)), oo 25 (.mv (.t 0)), oo 26 (.len false (.t 25)), oo 27 (.bin .eql (.t 24) (.t 26))]
def r_ingotref1_Var_6 := rg r_ingotref1_Var_6_o [0, 1, 7, 8, 27]
@[go_sem] theorem r_ingotref1_Var_6_u : Gr X K s r_ingotref1_Var_6 r_ingotref1_Var_6_o [0, 1, 7, 8, 27] := go_region _ _
@[go_sem] def r_ingotref1_Var_7_o : Ops := [
oo 4 (.asg (.c (.int .u64 0))), oo 5 (.asg (ci 0)), oo 6 (.asg (ci 3))]
def r_ingotref1_Var_7 := rg r_ingotref1_Var_7_o [4, 5, 6]
@[go_sem] theorem r_ingotref1_Var_7_u : Gr X K s r_ingotref1_Var_7 r_ingotref1_Var_7_o [4, 5, 6] := go_region _ _
@[go_sem] def r_ingotref1_Var_8_o : Ops := [
oo 28 (.mv (.t 0)), oo 29 (.mv (.t 1)), oo 30 (.mv (.t 8)), oo 31 (.bin .add (.t 29) (.t 30)), oo 32 (.idxA 1 (.t 28) (.t 31)), oo 33 (.load none (.t 32)), oo 9 (.asg (.t 33))]
def r_ingotref1_Var_8 := rg r_ingotref1_Var_8_o [0, 1, 7, 8, 9]
@[go_sem] theorem r_ingotref1_Var_8_u : Gr X K s r_ingotref1_Var_8 r_ingotref1_Var_8_o [0, 1, 7, 8, 9] := go_region _ _
@[go_sem] def r_ingotref1_Var_9_o : Ops := [
oo 34 (.mv (.t 8)), oo 35 (.bin .eql (.t 34) (ci 9)), oo 36 (.mv (.t 35)), og 37 36 true (.mv (.t 9)), og 38 36 true (.bin .gtr (.t 37) (.c (.int .u8 1))), oo 39 (.pick (.t 36) (.t 38) (.c (.bool false)))]
def r_ingotref1_Var_9 := rg r_ingotref1_Var_9_o [0, 1, 7, 8, 9, 39]
@[go_sem] theorem r_ingotref1_Var_9_u : Gr X K s r_ingotref1_Var_9 r_ingotref1_Var_9_o [0, 1, 7, 8, 9, 39] := go_region _ _
@[go_sem] def r_ingotref1_Var_10_o : Ops := [
oo 4 (.asg (.c (.int .u64 0))), oo 5 (.asg (ci 0)), oo 6 (.asg (ci 4))]
def r_ingotref1_Var_10 := rg r_ingotref1_Var_10_o [4, 5, 6]
@[go_sem] theorem r_ingotref1_Var_10_u : Gr X K s r_ingotref1_Var_10 r_ingotref1_Var_10_o [4, 5, 6] := go_region _ _
@[go_sem] def r_ingotref1_Var_11_o : Ops := [
oo 40 (.mv (.t 7)), oo 41 (.mv (.t 9)), oo 42 (.bin .and (.t 41) (.c (.int .u8 127))), oo 43 (.cvInt .u64 (.t 42)), oo 44 (.mv (.t 8)), oo 45 (.cvInt .u64 (.t 44)), oo 46 (.bin .mul (.c (.int .u64 7)) (.t 45)), oo 47 (.bin .shl (.t 43) (.t 46)), oo 48 (.bin .or (.t 40) (.t 47)), oo 7 (.asg (.t 48))]
def r_ingotref1_Var_11 := rg r_ingotref1_Var_11_o [0, 1, 7, 8, 9]
@[go_sem] theorem r_ingotref1_Var_11_u : Gr X K s r_ingotref1_Var_11 r_ingotref1_Var_11_o [0, 1, 7, 8, 9] := go_region _ _
@[go_sem] def r_ingotref1_Var_12_o : Ops := [
oo 49 (.mv (.t 9)), oo 50 (.bin .lss (.t 49) (.c (.int .u8 128)))]
def r_ingotref1_Var_12 := rg r_ingotref1_Var_12_o [0, 1, 7, 8, 50]
@[go_sem] theorem r_ingotref1_Var_12_u : Gr X K s r_ingotref1_Var_12 r_ingotref1_Var_12_o [0, 1, 7, 8, 50] := go_region _ _
@[go_sem] def r_ingotref1_Var_13_o : Ops := [
oo 51 (.mv (.t 7)), oo 52 (.mv (.t 8)), oo 53 (.bin .add (.t 52) (ci 1)), oo 4 (.asg (.t 51)), oo 5 (.asg (.t 53)), oo 6 (.asg (ci 0))]
def r_ingotref1_Var_13 := rg r_ingotref1_Var_13_o [4, 5, 6]
@[go_sem] theorem r_ingotref1_Var_13_u : Gr X K s r_ingotref1_Var_13 r_ingotref1_Var_13_o [4, 5, 6] := go_region _ _
@[go_sem] def r_ingotref1_Var_14_o : Ops := [
oo 20 (.mv (.t 8)), oo 21 (.bin .add (.t 20) (ci 1)), oo 8 (.asg (.t 21))]
def r_ingotref1_Var_14 := rg r_ingotref1_Var_14_o [0, 1, 7, 8]
@[go_sem] theorem r_ingotref1_Var_14_u : Gr X K s r_ingotref1_Var_14 r_ingotref1_Var_14_o [0, 1, 7, 8] := go_region _ _
def b_ingotref1_Var_15 : ICode := (.seq (.seq r_ingotref1_Var_5 (.cond (.t 19) .skip (.exit 0))) (.seq (.block 1 (.seq (.seq r_ingotref1_Var_6 (.cond (.t 27) (.seq r_ingotref1_Var_7 .ret) .skip)) (.seq r_ingotref1_Var_8 (.seq (.seq r_ingotref1_Var_9 (.cond (.t 39) (.seq r_ingotref1_Var_10 .ret) .skip)) (.seq r_ingotref1_Var_11 (.seq r_ingotref1_Var_12 (.cond (.t 50) (.seq r_ingotref1_Var_13 .ret) .skip))))))) r_ingotref1_Var_14))
@[go_sem] theorem b_ingotref1_Var_15_u : Gn X K s b_ingotref1_Var_15 (.seq (.seq r_ingotref1_Var_5 (.cond (.t 19) .skip (.exit 0))) (.seq (.block 1 (.seq (.seq r_ingotref1_Var_6 (.cond (.t 27) (.seq r_ingotref1_Var_7 .ret) .skip)) (.seq r_ingotref1_Var_8 (.seq (.seq r_ingotref1_Var_9 (.cond (.t 39) (.seq r_ingotref1_Var_10 .ret) .skip)) (.seq r_ingotref1_Var_11 (.seq r_ingotref1_Var_12 (.cond (.t 50) (.seq r_ingotref1_Var_13 .ret) .skip))))))) r_ingotref1_Var_14)) := rfl
@[go_sem] def r_ingotref1_Var_16_o : Ops := [
oo 4 (.asg (.c (.int .u64 0))), oo 5 (.asg (ci 0)), oo 6 (.asg (ci 4))]
def r_ingotref1_Var_16 := rg r_ingotref1_Var_16_o [4, 5, 6]
@[go_sem] theorem r_ingotref1_Var_16_u : Gr X K s r_ingotref1_Var_16 r_ingotref1_Var_16_o [4, 5, 6] := go_region _ _
def c_ingotref1_Var : ICode := (.seq r_ingotref1_Var_0 (.seq r_ingotref1_Var_1 (.cond (.t 17) (.seq r_ingotref1_Var_2 .ret) (.seq r_ingotref1_Var_3 (.seq (.seq r_ingotref1_Var_4 (.block 0 (.loop b_ingotref1_Var_15))) (.seq r_ingotref1_Var_16 .ret))))))
def i_ingotref1_Var : IFunc := ⟨2, [.t 4, .t 5, .t 6], c_ingotref1_Var⟩
def a_ingotref1_Var : Advice := ⟨[], [(15, [4, 5, 6]), (6, [0, 1, 7, 8]), (14, [4, 5, 6]), (13, [0, 1, 7, 8, 50]), (12, [0, 1, 7, 8, 9]), (11, [4, 5, 6]), (10, [0, 1, 7, 8, 9, 39]), (9, [0, 1, 7, 8, 9]), (8, [4, 5, 6]), (7, [0, 1, 7, 8, 27]), (5, [0, 1, 7, 8, 19]), (4, [0, 1, 7, 8]), (3, [0, 1, 7]), (2, [4, 5, 6]), (1, [0, 1, 17]), (0, [0, 1])], [], [], [], []⟩
/-! ingot/nums.Zag -/
@[go_sem] def r_nums_Zag_0_o : Ops := [
oo 2 (.asg (ci 0))]
def r_nums_Zag_0 := rg r_nums_Zag_0_o [0]
@[go_sem] theorem r_nums_Zag_0_u : Gr X K s r_nums_Zag_0 r_nums_Zag_0_o [0] := go_region _ _
@[go_sem] def r_nums_Zag_1_o : Ops := [
oo 3 (.mv (.t 0)), oo 4 (.bin .shr (.t 3) (.c (.int .u64 1))), oo 5 (.cvInt .i64 (.t 4)), oo 6 (.mv (.t 0)), oo 7 (.bin .and (.t 6) (.c (.int .u64 1))), oo 8 (.cvInt .i64 (.t 7)), oo 9 (.un .neg (.t 8)), oo 10 (.bin .xor (.t 5) (.t 9)), oo 2 (.asg (.t 10))]
def r_nums_Zag_1 := rg r_nums_Zag_1_o [2]
@[go_sem] theorem r_nums_Zag_1_u : Gr X K s r_nums_Zag_1 r_nums_Zag_1_o [2] := go_region _ _
def c_nums_Zag : ICode := (.seq r_nums_Zag_0 (.seq r_nums_Zag_1 .ret))
def i_nums_Zag : IFunc := ⟨1, [.t 2], c_nums_Zag⟩
def a_nums_Zag : Advice := ⟨[], [(1, [2]), (0, [0])], [], [], [], []⟩
/-! (ingot/foot.parts).known -/
@[go_sem] def r_foot_parts_known_0_o : Ops := [
oo 2 (.box 9 (.t 0)), oo 4 (.asg (.c .nilS)), oo 5 (.asg (ci 0))]
def r_foot_parts_known_0 := rg r_foot_parts_known_0_o [1, 2]
@[go_sem] theorem r_foot_parts_known_0_u : Gr X K s r_foot_parts_known_0 r_foot_parts_known_0_o [1, 2] := go_region _ _
@[go_sem] def r_foot_parts_known_1_o : Ops := [
oo 11 (.fieldA 8 (.t 2)), oo 12 (.load none (.t 11)), oo 13 (.len false (.t 12)), oo 14 (.bin .gtr (.t 13) (ci 0)), oo 15 (.mv (.t 14)), og 16 15 true (.fieldA 8 (.t 2)), og 17 15 true (.load none (.t 16)), og 18 15 true (.len false (.t 17)), og 19 15 true (.mv (.t 1)), og 20 15 true (.len false (.t 19)), og 21 15 true (.bin .neq (.t 18) (.t 20)), oo 22 (.pick (.t 15) (.t 21) (.c (.bool false)))]
def r_foot_parts_known_1 := rg r_foot_parts_known_1_o [1, 2, 22]
@[go_sem] theorem r_foot_parts_known_1_u : Gr X K s r_foot_parts_known_1 r_foot_parts_known_1_o [1, 2, 22] := go_region _ _
@[go_sem] def r_foot_parts_known_2_o : Ops := [
oo 4 (.asg (.c .nilS)), oo 5 (.asg (ci 2))]
def r_foot_parts_known_2 := rg r_foot_parts_known_2_o [4, 5]
@[go_sem] theorem r_foot_parts_known_2_u : Gr X K s r_foot_parts_known_2 r_foot_parts_known_2_o [4, 5] := go_region _ _
@[go_sem] def r_foot_parts_known_3_o : Ops := [
oo 6 (.asg (.c .nilS))]
def r_foot_parts_known_3 := rg r_foot_parts_known_3_o [1, 2, 6]
@[go_sem] theorem r_foot_parts_known_3_u : Gr X K s r_foot_parts_known_3 r_foot_parts_known_3_o [1, 2, 6] := go_region _ _
@[go_sem] def r_foot_parts_known_4_o : Ops := [
oo 23 (.fieldA 8 (.t 2)), oo 24 (.load none (.t 23)), oo 25 (.len false (.t 24)), oo 26 (.mv (ci 0))]
def r_foot_parts_known_4 := rg r_foot_parts_known_4_o [1, 6, 24, 25, 26]
@[go_sem] theorem r_foot_parts_known_4_u : Gr X K s r_foot_parts_known_4 r_foot_parts_known_4_o [1, 6, 24, 25, 26] := go_region _ _
@[go_sem] def r_foot_parts_known_5_o : Ops := [
oo 27 (.bin .lss (.t 26) (.t 25))]
def r_foot_parts_known_5 := rg r_foot_parts_known_5_o [1, 6, 24, 25, 26, 27]
@[go_sem] theorem r_foot_parts_known_5_u : Gr X K s r_foot_parts_known_5 r_foot_parts_known_5_o [1, 6, 24, 25, 26, 27] := go_region _ _
@[go_sem] def r_foot_parts_known_6_o : Ops := [
oo 28 (.mv (.t 26)), oo 29 (.idxA 1 (.t 24) (.t 26)), oo 30 (.load none (.t 29)), oo 7 (.asg (.t 28)), oo 8 (.asg (.t 30))]
def r_foot_parts_known_6 := rg r_foot_parts_known_6_o [1, 6, 7, 8, 24, 25, 26]
@[go_sem] theorem r_foot_parts_known_6_u : Gr X K s r_foot_parts_known_6 r_foot_parts_known_6_o [1, 6, 7, 8, 24, 25, 26] := go_region _ _
@[go_sem] def r_foot_parts_known_7_o : Ops := [
oo 32 (.mv (.t 1)), oo 33 (.mv (.t 7)), oo 34 (.idxA 8 (.t 32) (.t 33)), oo 35 (.load (some 8) (.t 34)), oo 36 (.mv (.t 8)), oo 37 (.call false n_foot_ReadStats [(.t 35), (.t 36)]), oo 31 (.mv (.t 37)), oo 38 (.ext (.t 31) 0), oo 39 (.ext (.t 31) 1), oo 9 (.alloc [(.int .i64 0), (.bool false), (.bool false), (.bool false), (.int .i64 0), (.int .i64 0), .nilS, .nilS, (.bool false), (.int .i64 0), (.int .i64 0), .nilS, .nilS, (.bool false), (.int .i64 0)]), ow (.store 15 (.t 9) (.t 38)), oo 10 (.asg (.t 39))]
def r_foot_parts_known_7 := rg r_foot_parts_known_7_o [1, 6, 9, 10, 24, 25, 26]
@[go_sem] theorem r_foot_parts_known_7_u : Gr X K s r_foot_parts_known_7 r_foot_parts_known_7_o [1, 6, 9, 10, 24, 25, 26] := go_region _ _
@[go_sem] def r_foot_parts_known_8_o : Ops := [
oo 40 (.mv (.t 10)), oo 41 (.bin .neq (.t 40) (ci 0))]
def r_foot_parts_known_8 := rg r_foot_parts_known_8_o [1, 6, 9, 10, 24, 25, 26, 41]
@[go_sem] theorem r_foot_parts_known_8_u : Gr X K s r_foot_parts_known_8 r_foot_parts_known_8_o [1, 6, 9, 10, 24, 25, 26, 41] := go_region _ _
@[go_sem] def r_foot_parts_known_9_o : Ops := [
oo 42 (.mv (.t 10)), oo 4 (.asg (.c .nilS)), oo 5 (.asg (.t 42))]
def r_foot_parts_known_9 := rg r_foot_parts_known_9_o [4, 5]
@[go_sem] theorem r_foot_parts_known_9_u : Gr X K s r_foot_parts_known_9 r_foot_parts_known_9_o [4, 5] := go_region _ _
@[go_sem] def r_foot_parts_known_10_o : Ops := [
oo 43 (.mv (.t 6)), oo 44 (.load (some 15) (.t 9)), oo 45 (.lit false 15 1 (.agg [(.int .i64 0), (.bool false), (.bool false), (.bool false), (.int .i64 0), (.int .i64 0), (.sl []), (.sl []), (.bool false), (.int .i64 0), (.int .i64 0), (.sl []), (.sl []), (.bool false), (.int .i64 0)]) [(0, (.t 44))]), oo 46 (.append 15 176 (.t 43) (.t 45)), oo 6 (.asg (.t 46))]
def r_foot_parts_known_10 := rg r_foot_parts_known_10_o [1, 6, 24, 25, 26]
@[go_sem] theorem r_foot_parts_known_10_u : Gr X K s r_foot_parts_known_10 r_foot_parts_known_10_o [1, 6, 24, 25, 26] := go_region _ _
@[go_sem] def r_foot_parts_known_11_o : Ops := [
oo 47 (.bin .add (.t 26) (ci 1)), oo 26 (.mv (.t 47))]
def r_foot_parts_known_11 := rg r_foot_parts_known_11_o [1, 6, 24, 25, 26]
@[go_sem] theorem r_foot_parts_known_11_u : Gr X K s r_foot_parts_known_11 r_foot_parts_known_11_o [1, 6, 24, 25, 26] := go_region _ _
def b_foot_parts_known_12 : ICode := (.seq r_foot_parts_known_5 (.seq (.cond (.t 27) .skip (.exit 0)) (.seq (.block 1 (.seq r_foot_parts_known_6 (.seq (.seq (.free 9) r_foot_parts_known_7) (.seq (.seq r_foot_parts_known_8 (.cond (.t 41) (.seq r_foot_parts_known_9 .ret) .skip)) r_foot_parts_known_10)))) r_foot_parts_known_11)))
@[go_sem] theorem b_foot_parts_known_12_u : Gn X K s b_foot_parts_known_12 (.seq r_foot_parts_known_5 (.seq (.cond (.t 27) .skip (.exit 0)) (.seq (.block 1 (.seq r_foot_parts_known_6 (.seq (.seq (.free 9) r_foot_parts_known_7) (.seq (.seq r_foot_parts_known_8 (.cond (.t 41) (.seq r_foot_parts_known_9 .ret) .skip)) r_foot_parts_known_10)))) r_foot_parts_known_11))) := rfl
@[go_sem] def r_foot_parts_known_13_o : Ops := [
oo 48 (.mv (.t 6)), oo 49 (.call false n_slices_Clip_Sstat_Stats_stat_Stats [(.t 48)]), oo 4 (.asg (.t 49)), oo 5 (.asg (ci 0))]
def r_foot_parts_known_13 := rg r_foot_parts_known_13_o [4, 5]
@[go_sem] theorem r_foot_parts_known_13_u : Gr X K s r_foot_parts_known_13 r_foot_parts_known_13_o [4, 5] := go_region _ _
def c_foot_parts_known : ICode := (.seq r_foot_parts_known_0 (.seq r_foot_parts_known_1 (.cond (.t 22) (.seq r_foot_parts_known_2 .ret) (.seq r_foot_parts_known_3 (.seq (.seq r_foot_parts_known_4 (.block 0 (.loop b_foot_parts_known_12))) (.seq r_foot_parts_known_13 .ret))))))
def i_foot_parts_known : IFunc := ⟨2, [.t 4, .t 5], c_foot_parts_known⟩
def a_foot_parts_known : Advice := ⟨[46], [(12, [4, 5]), (11, [1, 6, 24, 25, 26]), (10, [1, 6, 24, 25, 26]), (9, [4, 5]), (8, [1, 6, 9, 10, 24, 25, 26, 41]), (7, [1, 6, 9, 10, 24, 25, 26]), (6, [1, 6, 7, 8, 24, 25, 26]), (5, [1, 6, 24, 25, 26, 27]), (4, [1, 6, 24, 25, 26]), (3, [1, 2, 6]), (2, [4, 5]), (1, [1, 2, 22]), (0, [1, 2])], [], [(7, [9])], [], []⟩
/-! ingot/pb.Text -/
@[go_sem] def r_pb_Text_0_o : Ops := [
oo 4 (.asg (.c .nilS)), oo 5 (.asg (.c (.bool false)))]
def r_pb_Text_0 := rg r_pb_Text_0_o [0, 1]
@[go_sem] theorem r_pb_Text_0_u : Gr X K s r_pb_Text_0 r_pb_Text_0_o [0, 1] := go_region _ _
@[go_sem] def r_pb_Text_1_o : Ops := [
oo 9 (.mv (.t 0)), oo 10 (.mv (.t 1)), oo 11 (.call false n_pb_last [(.t 9), (.t 10), (ci 2)]), oo 8 (.mv (.t 11)), oo 12 (.ext (.t 8) 0), oo 13 (.ext (.t 8) 1), oo 6 (.alloc [(.int .i64 0), (.int .i64 0), (.int .u64 0), .nilS, (.int .i64 0)]), ow (.store 5 (.t 6) (.t 12)), oo 7 (.asg (.t 13))]
def r_pb_Text_1 := rg r_pb_Text_1_o [6, 7]
@[go_sem] theorem r_pb_Text_1_u : Gr X K s r_pb_Text_1 r_pb_Text_1_o [6, 7] := go_region _ _
@[go_sem] def r_pb_Text_2_o : Ops := [
oo 14 (.fieldA 3 (.t 6)), oo 15 (.load none (.t 14)), oo 16 (.call false n_slices_Clone_Sbyte_byte [(.t 15)]), oo 17 (.call false n_slices_Clip_Sbyte_byte [(.t 16)]), oo 18 (.mv (.t 7)), oo 4 (.asg (.t 17)), oo 5 (.asg (.t 18))]
def r_pb_Text_2 := rg r_pb_Text_2_o [4, 5]
@[go_sem] theorem r_pb_Text_2_u : Gr X K s r_pb_Text_2 r_pb_Text_2_o [4, 5] := go_region _ _
def c_pb_Text : ICode := (.seq r_pb_Text_0 (.seq r_pb_Text_1 (.seq r_pb_Text_2 .ret)))
def i_pb_Text : IFunc := ⟨2, [.t 4, .t 5], c_pb_Text⟩
def a_pb_Text : Advice := ⟨[], [(2, [4, 5]), (1, [6, 7]), (0, [0, 1])], [], [], [], []⟩
/-! (ingot/foot.parts).pairs -/
@[go_sem] def r_foot_parts_pairs_0_o : Ops := [
oo 1 (.box 9 (.t 0)), oo 2 (.asg (.c .nilS)), oo 3 (.asg (.c (.bool false)))]
def r_foot_parts_pairs_0 := rg r_foot_parts_pairs_0_o [1]
@[go_sem] theorem r_foot_parts_pairs_0_u : Gr X K s r_foot_parts_pairs_0 r_foot_parts_pairs_0_o [1] := go_region _ _
@[go_sem] def r_foot_parts_pairs_1_o : Ops := [
oo 11 (.fieldA 0 (.t 1)), oo 12 (.idxB 8 1 (.t 11) (ci 5)), oo 13 (.load none (.t 12)), oo 14 (.len false (.t 13)), oo 15 (.bin .gtr (.t 14) (ci 32))]
def r_foot_parts_pairs_1 := rg r_foot_parts_pairs_1_o [1, 15]
@[go_sem] theorem r_foot_parts_pairs_1_u : Gr X K s r_foot_parts_pairs_1 r_foot_parts_pairs_1_o [1, 15] := go_region _ _
@[go_sem] def r_foot_parts_pairs_2_o : Ops := [
oo 2 (.asg (.c .nilS)), oo 3 (.asg (.c (.bool false)))]
def r_foot_parts_pairs_2 := rg r_foot_parts_pairs_2_o [2, 3]
@[go_sem] theorem r_foot_parts_pairs_2_u : Gr X K s r_foot_parts_pairs_2 r_foot_parts_pairs_2_o [2, 3] := go_region _ _
@[go_sem] def r_foot_parts_pairs_3_o : Ops := [
oo 4 (.asg (.c .nilS))]
def r_foot_parts_pairs_3 := rg r_foot_parts_pairs_3_o [1, 4]
@[go_sem] theorem r_foot_parts_pairs_3_u : Gr X K s r_foot_parts_pairs_3 r_foot_parts_pairs_3_o [1, 4] := go_region _ _
@[go_sem] def r_foot_parts_pairs_4_o : Ops := [
oo 16 (.fieldA 0 (.t 1)), oo 17 (.idxB 8 1 (.t 16) (ci 5)), oo 18 (.load none (.t 17)), oo 19 (.len false (.t 18)), oo 20 (.mv (ci 0))]
def r_foot_parts_pairs_4 := rg r_foot_parts_pairs_4_o [4, 18, 19, 20]
@[go_sem] theorem r_foot_parts_pairs_4_u : Gr X K s r_foot_parts_pairs_4 r_foot_parts_pairs_4_o [4, 18, 19, 20] := go_region _ _
@[go_sem] def r_foot_parts_pairs_5_o : Ops := [
oo 21 (.bin .lss (.t 20) (.t 19))]
def r_foot_parts_pairs_5 := rg r_foot_parts_pairs_5_o [4, 18, 19, 20, 21]
@[go_sem] theorem r_foot_parts_pairs_5_u : Gr X K s r_foot_parts_pairs_5 r_foot_parts_pairs_5_o [4, 18, 19, 20, 21] := go_region _ _
@[go_sem] def r_foot_parts_pairs_6_o : Ops := [
oo 22 (.idxA 1 (.t 18) (.t 20)), oo 23 (.load none (.t 22)), oo 6 (.asg (.t 23))]
def r_foot_parts_pairs_6 := rg r_foot_parts_pairs_6_o [4, 6, 18, 19, 20]
@[go_sem] theorem r_foot_parts_pairs_6_u : Gr X K s r_foot_parts_pairs_6 r_foot_parts_pairs_6_o [4, 6, 18, 19, 20] := go_region _ _
@[go_sem] def r_foot_parts_pairs_7_o : Ops := [
oo 25 (.mv (.t 6)), oo 26 (.call false n_pb_Text [(.t 25), (ci 1)]), oo 24 (.mv (.t 26)), oo 27 (.ext (.t 24) 0), oo 28 (.ext (.t 24) 1), oo 7 (.asg (.t 27)), oo 8 (.asg (.t 28))]
def r_foot_parts_pairs_7 := rg r_foot_parts_pairs_7_o [4, 6, 7, 18, 19, 20]
@[go_sem] theorem r_foot_parts_pairs_7_u : Gr X K s r_foot_parts_pairs_7 r_foot_parts_pairs_7_o [4, 6, 7, 18, 19, 20] := go_region _ _
@[go_sem] def r_foot_parts_pairs_8_o : Ops := [
oo 30 (.mv (.t 6)), oo 31 (.call false n_pb_Text [(.t 30), (ci 2)]), oo 29 (.mv (.t 31)), oo 32 (.ext (.t 29) 0), oo 33 (.ext (.t 29) 1), oo 9 (.asg (.t 32)), oo 10 (.asg (.t 33))]
def r_foot_parts_pairs_8 := rg r_foot_parts_pairs_8_o [4, 7, 9, 18, 19, 20]
@[go_sem] theorem r_foot_parts_pairs_8_u : Gr X K s r_foot_parts_pairs_8 r_foot_parts_pairs_8_o [4, 7, 9, 18, 19, 20] := go_region _ _
@[go_sem] def r_foot_parts_pairs_9_o : Ops := [
oo 34 (.mv (.t 4)), oo 35 (.mv (.t 7)), oo 36 (.b2s (.t 35)), oo 37 (.mv (.t 9)), oo 38 (.build [(.str []), .nilS] [(0, 1, (.t 36)), (1, 1, (.t 37))]), oo 39 (.lit false 2 1 (.agg [(.str []), (.sl [])]) [(0, (.t 38))]), oo 40 (.append 2 40 (.t 34) (.t 39)), oo 4 (.asg (.t 40))]
def r_foot_parts_pairs_9 := rg r_foot_parts_pairs_9_o [4, 18, 19, 20]
@[go_sem] theorem r_foot_parts_pairs_9_u : Gr X K s r_foot_parts_pairs_9 r_foot_parts_pairs_9_o [4, 18, 19, 20] := go_region _ _
@[go_sem] def r_foot_parts_pairs_10_o : Ops := [
oo 41 (.bin .add (.t 20) (ci 1)), oo 20 (.mv (.t 41))]
def r_foot_parts_pairs_10 := rg r_foot_parts_pairs_10_o [4, 18, 19, 20]
@[go_sem] theorem r_foot_parts_pairs_10_u : Gr X K s r_foot_parts_pairs_10 r_foot_parts_pairs_10_o [4, 18, 19, 20] := go_region _ _
def b_foot_parts_pairs_11 : ICode := (.seq r_foot_parts_pairs_5 (.seq (.cond (.t 21) .skip (.exit 0)) (.seq (.block 1 (.seq r_foot_parts_pairs_6 (.seq r_foot_parts_pairs_7 (.seq r_foot_parts_pairs_8 r_foot_parts_pairs_9)))) r_foot_parts_pairs_10)))
@[go_sem] theorem b_foot_parts_pairs_11_u : Gn X K s b_foot_parts_pairs_11 (.seq r_foot_parts_pairs_5 (.seq (.cond (.t 21) .skip (.exit 0)) (.seq (.block 1 (.seq r_foot_parts_pairs_6 (.seq r_foot_parts_pairs_7 (.seq r_foot_parts_pairs_8 r_foot_parts_pairs_9)))) r_foot_parts_pairs_10))) := rfl
@[go_sem] def r_foot_parts_pairs_12_o : Ops := [
oo 42 (.mv (.t 4)), oo 43 (.call false n_slices_Clip_Sapi_Pair_api_Pair [(.t 42)]), oo 2 (.asg (.t 43)), oo 3 (.asg (.c (.bool true)))]
def r_foot_parts_pairs_12 := rg r_foot_parts_pairs_12_o [2, 3]
@[go_sem] theorem r_foot_parts_pairs_12_u : Gr X K s r_foot_parts_pairs_12 r_foot_parts_pairs_12_o [2, 3] := go_region _ _
def c_foot_parts_pairs : ICode := (.seq r_foot_parts_pairs_0 (.seq r_foot_parts_pairs_1 (.cond (.t 15) (.seq r_foot_parts_pairs_2 .ret) (.seq r_foot_parts_pairs_3 (.seq (.seq r_foot_parts_pairs_4 (.block 0 (.loop b_foot_parts_pairs_11))) (.seq r_foot_parts_pairs_12 .ret))))))
def i_foot_parts_pairs : IFunc := ⟨1, [.t 2, .t 3], c_foot_parts_pairs⟩
def a_foot_parts_pairs : Advice := ⟨[40], [(11, [2, 3]), (10, [4, 18, 19, 20]), (9, [4, 18, 19, 20]), (8, [4, 7, 9, 18, 19, 20]), (7, [4, 6, 7, 18, 19, 20]), (6, [4, 6, 18, 19, 20]), (5, [4, 18, 19, 20, 21]), (4, [4, 18, 19, 20]), (3, [1, 4]), (2, [2, 3]), (1, [1, 15]), (0, [1])], [], [], [], []⟩
/-! (ingot/foot.parts).tree -/
@[go_sem] def r_foot_parts_tree_0_o : Ops := [
oo 1 (.box 9 (.t 0)), oo 2 (.alloc [(.int .i64 0), .nilS, .nilS, (.int .i64 0), (.int .i64 0), (.int .i64 0)]), oo 3 (.asg (ci 0))]
def r_foot_parts_tree_0 := rg r_foot_parts_tree_0_o [1, 2]
@[go_sem] theorem r_foot_parts_tree_0_u : Gr X K s r_foot_parts_tree_0 r_foot_parts_tree_0_o [1, 2] := go_region _ _
@[go_sem] def r_foot_parts_tree_1_o : Ops := [
oo 4 (.asg (.c .nilS))]
def r_foot_parts_tree_1 := rg r_foot_parts_tree_1_o [1, 2, 4]
@[go_sem] theorem r_foot_parts_tree_1_u : Gr X K s r_foot_parts_tree_1 r_foot_parts_tree_1_o [1, 2, 4] := go_region _ _
@[go_sem] def r_foot_parts_tree_2_o : Ops := [
oo 9 (.fieldA 0 (.t 1)), oo 10 (.idxB 8 1 (.t 9) (ci 4)), oo 11 (.load none (.t 10)), oo 12 (.len false (.t 11)), oo 13 (.mv (ci 0))]
def r_foot_parts_tree_2 := rg r_foot_parts_tree_2_o [2, 4, 11, 12, 13]
@[go_sem] theorem r_foot_parts_tree_2_u : Gr X K s r_foot_parts_tree_2 r_foot_parts_tree_2_o [2, 4, 11, 12, 13] := go_region _ _
@[go_sem] def r_foot_parts_tree_3_o : Ops := [
oo 14 (.bin .lss (.t 13) (.t 12))]
def r_foot_parts_tree_3 := rg r_foot_parts_tree_3_o [2, 4, 11, 12, 13, 14]
@[go_sem] theorem r_foot_parts_tree_3_u : Gr X K s r_foot_parts_tree_3 r_foot_parts_tree_3_o [2, 4, 11, 12, 13, 14] := go_region _ _
@[go_sem] def r_foot_parts_tree_4_o : Ops := [
oo 15 (.idxA 1 (.t 11) (.t 13)), oo 16 (.load none (.t 15)), oo 6 (.asg (.t 16))]
def r_foot_parts_tree_4 := rg r_foot_parts_tree_4_o [2, 4, 6, 11, 12, 13]
@[go_sem] theorem r_foot_parts_tree_4_u : Gr X K s r_foot_parts_tree_4 r_foot_parts_tree_4_o [2, 4, 6, 11, 12, 13] := go_region _ _
@[go_sem] def r_foot_parts_tree_5_o : Ops := [
oo 18 (.mv (.t 6)), oo 19 (.call false n_foot_node [(.t 18)]), oo 17 (.mv (.t 19)), oo 20 (.ext (.t 17) 0), oo 21 (.ext (.t 17) 1), oo 7 (.alloc [(.int .i64 0), .nilS, .nilS, (.int .i64 0), (.int .i64 0), (.int .i64 0), (.int .i64 0), (.int .i64 0)]), ow (.store 8 (.t 7) (.t 20)), oo 8 (.asg (.t 21))]
def r_foot_parts_tree_5 := rg r_foot_parts_tree_5_o [2, 4, 7, 8, 11, 12, 13]
@[go_sem] theorem r_foot_parts_tree_5_u : Gr X K s r_foot_parts_tree_5 r_foot_parts_tree_5_o [2, 4, 7, 8, 11, 12, 13] := go_region _ _
@[go_sem] def r_foot_parts_tree_6_o : Ops := [
oo 22 (.mv (.t 8)), oo 23 (.bin .neq (.t 22) (ci 0))]
def r_foot_parts_tree_6 := rg r_foot_parts_tree_6_o [2, 4, 7, 8, 11, 12, 13, 23]
@[go_sem] theorem r_foot_parts_tree_6_u : Gr X K s r_foot_parts_tree_6 r_foot_parts_tree_6_o [2, 4, 7, 8, 11, 12, 13, 23] := go_region _ _
@[go_sem] def r_foot_parts_tree_7_o : Ops := [
oo 24 (.build [(.int .i64 0), .nilS, .nilS, (.int .i64 0), (.int .i64 0), (.int .i64 0)] []), oo 25 (.mv (.t 8)), ow (.store 6 (.t 2) (.t 24)), oo 3 (.asg (.t 25))]
def r_foot_parts_tree_7 := rg r_foot_parts_tree_7_o [2, 3]
@[go_sem] theorem r_foot_parts_tree_7_u : Gr X K s r_foot_parts_tree_7 r_foot_parts_tree_7_o [2, 3] := go_region _ _
@[go_sem] def r_foot_parts_tree_8_o : Ops := [
oo 26 (.mv (.t 4)), oo 27 (.load (some 8) (.t 7)), oo 28 (.lit false 8 1 (.agg [(.int .i64 0), (.sl []), (.sl []), (.int .i64 0), (.int .i64 0), (.int .i64 0), (.int .i64 0), (.int .i64 0)]) [(0, (.t 27))]), oo 29 (.append 8 96 (.t 26) (.t 28)), oo 4 (.asg (.t 29))]
def r_foot_parts_tree_8 := rg r_foot_parts_tree_8_o [2, 4, 11, 12, 13]
@[go_sem] theorem r_foot_parts_tree_8_u : Gr X K s r_foot_parts_tree_8 r_foot_parts_tree_8_o [2, 4, 11, 12, 13] := go_region _ _
@[go_sem] def r_foot_parts_tree_9_o : Ops := [
oo 30 (.bin .add (.t 13) (ci 1)), oo 13 (.mv (.t 30))]
def r_foot_parts_tree_9 := rg r_foot_parts_tree_9_o [2, 4, 11, 12, 13]
@[go_sem] theorem r_foot_parts_tree_9_u : Gr X K s r_foot_parts_tree_9 r_foot_parts_tree_9_o [2, 4, 11, 12, 13] := go_region _ _
def b_foot_parts_tree_10 : ICode := (.seq r_foot_parts_tree_3 (.seq (.cond (.t 14) .skip (.exit 0)) (.seq (.block 1 (.seq r_foot_parts_tree_4 (.seq (.seq (.free 7) r_foot_parts_tree_5) (.seq (.seq r_foot_parts_tree_6 (.cond (.t 23) (.seq r_foot_parts_tree_7 .ret) .skip)) r_foot_parts_tree_8)))) r_foot_parts_tree_9)))
@[go_sem] theorem b_foot_parts_tree_10_u : Gn X K s b_foot_parts_tree_10 (.seq r_foot_parts_tree_3 (.seq (.cond (.t 14) .skip (.exit 0)) (.seq (.block 1 (.seq r_foot_parts_tree_4 (.seq (.seq (.free 7) r_foot_parts_tree_5) (.seq (.seq r_foot_parts_tree_6 (.cond (.t 23) (.seq r_foot_parts_tree_7 .ret) .skip)) r_foot_parts_tree_8)))) r_foot_parts_tree_9))) := rfl
@[go_sem] def r_foot_parts_tree_11_o : Ops := [
oo 31 (.mv (.t 4)), oo 32 (.len false (.t 31)), oo 33 (.bin .eql (.t 32) (ci 0))]
def r_foot_parts_tree_11 := rg r_foot_parts_tree_11_o [2, 4, 33]
@[go_sem] theorem r_foot_parts_tree_11_u : Gr X K s r_foot_parts_tree_11 r_foot_parts_tree_11_o [2, 4, 33] := go_region _ _
@[go_sem] def r_foot_parts_tree_12_o : Ops := [
oo 34 (.build [(.int .i64 0), .nilS, .nilS, (.int .i64 0), (.int .i64 0), (.int .i64 0)] []), ow (.store 6 (.t 2) (.t 34)), oo 3 (.asg (ci 2))]
def r_foot_parts_tree_12 := rg r_foot_parts_tree_12_o [2, 3]
@[go_sem] theorem r_foot_parts_tree_12_u : Gr X K s r_foot_parts_tree_12 r_foot_parts_tree_12_o [2, 3] := go_region _ _
@[go_sem] def r_foot_parts_tree_13_o : Ops := [
oo 35 (.mv (.t 4)), oo 36 (.call false n_types_Build [(.t 35)]), oo 37 (.ext (.t 36) 0), oo 38 (.ext (.t 36) 1), ow (.store 6 (.t 2) (.t 37)), oo 3 (.asg (.t 38))]
def r_foot_parts_tree_13 := rg r_foot_parts_tree_13_o [2, 3]
@[go_sem] theorem r_foot_parts_tree_13_u : Gr X K s r_foot_parts_tree_13 r_foot_parts_tree_13_o [2, 3] := go_region _ _
def c_foot_parts_tree : ICode := (.seq r_foot_parts_tree_0 (.seq r_foot_parts_tree_1 (.seq (.seq r_foot_parts_tree_2 (.block 0 (.loop b_foot_parts_tree_10))) (.seq r_foot_parts_tree_11 (.cond (.t 33) (.seq r_foot_parts_tree_12 .ret) (.seq (.seq (.demote [4]) r_foot_parts_tree_13) .ret))))))
def i_foot_parts_tree : IFunc := ⟨1, [.cell 2 (some 6), .t 3], c_foot_parts_tree⟩
def a_foot_parts_tree : Advice := ⟨[29], [(12, [2, 3]), (11, [2, 3]), (10, [2, 4, 33]), (9, [2, 4, 11, 12, 13]), (8, [2, 4, 11, 12, 13]), (7, [2, 3]), (6, [2, 4, 7, 8, 11, 12, 13, 23]), (5, [2, 4, 7, 8, 11, 12, 13]), (4, [2, 4, 6, 11, 12, 13]), (3, [2, 4, 11, 12, 13, 14]), (2, [2, 4, 11, 12, 13]), (1, [1, 2, 4]), (0, [1, 2])], [(12, [4])], [(5, [7])], [], []⟩
/-! (ingot/foot.parts).stripes -/
@[go_sem] def r_foot_parts_stripes_0_o : Ops := [
oo 1 (.box 9 (.t 0)), oo 2 (.asg (.c .nilS)), oo 3 (.asg (.c (.bool false)))]
def r_foot_parts_stripes_0 := rg r_foot_parts_stripes_0_o [1]
@[go_sem] theorem r_foot_parts_stripes_0_u : Gr X K s r_foot_parts_stripes_0 r_foot_parts_stripes_0_o [1] := go_region _ _
@[go_sem] def r_foot_parts_stripes_1_o : Ops := [
oo 12 (.fieldA 0 (.t 1)), oo 13 (.idxB 8 1 (.t 12) (ci 3)), oo 14 (.load none (.t 13)), oo 15 (.len false (.t 14)), oo 16 (.bin .gtr (.t 15) (ci 1024))]
def r_foot_parts_stripes_1 := rg r_foot_parts_stripes_1_o [1, 16]
@[go_sem] theorem r_foot_parts_stripes_1_u : Gr X K s r_foot_parts_stripes_1 r_foot_parts_stripes_1_o [1, 16] := go_region _ _
@[go_sem] def r_foot_parts_stripes_2_o : Ops := [
oo 2 (.asg (.c .nilS)), oo 3 (.asg (.c (.bool false)))]
def r_foot_parts_stripes_2 := rg r_foot_parts_stripes_2_o [2, 3]
@[go_sem] theorem r_foot_parts_stripes_2_u : Gr X K s r_foot_parts_stripes_2 r_foot_parts_stripes_2_o [2, 3] := go_region _ _
@[go_sem] def r_foot_parts_stripes_3_o : Ops := [
oo 4 (.asg (.c .nilS))]
def r_foot_parts_stripes_3 := rg r_foot_parts_stripes_3_o [1, 4]
@[go_sem] theorem r_foot_parts_stripes_3_u : Gr X K s r_foot_parts_stripes_3 r_foot_parts_stripes_3_o [1, 4] := go_region _ _
@[go_sem] def r_foot_parts_stripes_4_o : Ops := [
oo 17 (.fieldA 0 (.t 1)), oo 18 (.idxB 8 1 (.t 17) (ci 3)), oo 19 (.load none (.t 18)), oo 20 (.len false (.t 19)), oo 21 (.mv (ci 0))]
def r_foot_parts_stripes_4 := rg r_foot_parts_stripes_4_o [4, 19, 20, 21]
@[go_sem] theorem r_foot_parts_stripes_4_u : Gr X K s r_foot_parts_stripes_4 r_foot_parts_stripes_4_o [4, 19, 20, 21] := go_region _ _
@[go_sem] def r_foot_parts_stripes_5_o : Ops := [
oo 22 (.bin .lss (.t 21) (.t 20))]
def r_foot_parts_stripes_5 := rg r_foot_parts_stripes_5_o [4, 19, 20, 21, 22]
@[go_sem] theorem r_foot_parts_stripes_5_u : Gr X K s r_foot_parts_stripes_5 r_foot_parts_stripes_5_o [4, 19, 20, 21, 22] := go_region _ _
@[go_sem] def r_foot_parts_stripes_6_o : Ops := [
oo 23 (.idxA 1 (.t 19) (.t 21)), oo 24 (.load none (.t 23)), oo 6 (.asg (.t 24))]
def r_foot_parts_stripes_6 := rg r_foot_parts_stripes_6_o [4, 6, 19, 20, 21]
@[go_sem] theorem r_foot_parts_stripes_6_u : Gr X K s r_foot_parts_stripes_6 r_foot_parts_stripes_6_o [4, 6, 19, 20, 21] := go_region _ _
@[go_sem] def r_foot_parts_stripes_7_o : Ops := [
oo 7 (.alloc [(.int .i64 0), (.int .i64 0), (.int .i64 0), (.int .i64 0), (.int .i64 0)])]
def r_foot_parts_stripes_7 := rg r_foot_parts_stripes_7_o [4, 6, 7, 19, 20, 21]
@[go_sem] theorem r_foot_parts_stripes_7_u : Gr X K s r_foot_parts_stripes_7 r_foot_parts_stripes_7_o [4, 6, 7, 19, 20, 21] := go_region _ _
@[go_sem] def r_foot_parts_stripes_8_o : Ops := [
oo 25 (.fieldA 0 (.t 7)), oo 26 (.fieldA 1 (.t 7)), oo 27 (.fieldA 2 (.t 7)), oo 28 (.fieldA 3 (.t 7)), oo 29 (.fieldA 4 (.t 7)), oo 30 (.lit false 1 5 .nilP [(0, (.t 25)), (1, (.t 26)), (2, (.t 27)), (3, (.t 28)), (4, (.t 29))]), oo 31 (.len false (.t 30)), oo 32 (.mv (ci 0))]
def r_foot_parts_stripes_8 := rg r_foot_parts_stripes_8_o [4, 6, 7, 19, 20, 21, 30, 31, 32]
@[go_sem] theorem r_foot_parts_stripes_8_u : Gr X K s r_foot_parts_stripes_8 r_foot_parts_stripes_8_o [4, 6, 7, 19, 20, 21, 30, 31, 32] := go_region _ _
@[go_sem] def r_foot_parts_stripes_9_o : Ops := [
oo 33 (.bin .lss (.t 32) (.t 31))]
def r_foot_parts_stripes_9 := rg r_foot_parts_stripes_9_o [4, 6, 7, 19, 20, 21, 30, 31, 32, 33]
@[go_sem] theorem r_foot_parts_stripes_9_u : Gr X K s r_foot_parts_stripes_9 r_foot_parts_stripes_9_o [4, 6, 7, 19, 20, 21, 30, 31, 32, 33] := go_region _ _
@[go_sem] def r_foot_parts_stripes_10_o : Ops := [
oo 34 (.mv (.t 32)), oo 35 (.idxA 1 (.t 30) (.t 32)), oo 36 (.load none (.t 35)), oo 8 (.asg (.t 34)), oo 9 (.asg (.t 36))]
def r_foot_parts_stripes_10 := rg r_foot_parts_stripes_10_o [4, 6, 7, 8, 9, 19, 20, 21, 30, 31, 32]
@[go_sem] theorem r_foot_parts_stripes_10_u : Gr X K s r_foot_parts_stripes_10 r_foot_parts_stripes_10_o [4, 6, 7, 8, 9, 19, 20, 21, 30, 31, 32] := go_region _ _
@[go_sem] def r_foot_parts_stripes_11_o : Ops := [
oo 38 (.mv (.t 6)), oo 39 (.mv (.t 8)), oo 40 (.bin .add (.t 39) (ci 1)), oo 41 (.call false n_foot_number [(.t 38), (.t 40)]), oo 37 (.mv (.t 41)), oo 42 (.ext (.t 37) 0), oo 43 (.ext (.t 37) 1), oo 10 (.asg (.t 42)), oo 11 (.asg (.t 43))]
def r_foot_parts_stripes_11 := rg r_foot_parts_stripes_11_o [4, 6, 7, 9, 10, 11, 19, 20, 21, 30, 31, 32]
@[go_sem] theorem r_foot_parts_stripes_11_u : Gr X K s r_foot_parts_stripes_11 r_foot_parts_stripes_11_o [4, 6, 7, 9, 10, 11, 19, 20, 21, 30, 31, 32] := go_region _ _
@[go_sem] def r_foot_parts_stripes_12_o : Ops := [
oo 44 (.mv (.t 11)), oo 45 (.un .not (.t 44))]
def r_foot_parts_stripes_12 := rg r_foot_parts_stripes_12_o [4, 6, 7, 9, 10, 19, 20, 21, 30, 31, 32, 45]
@[go_sem] theorem r_foot_parts_stripes_12_u : Gr X K s r_foot_parts_stripes_12 r_foot_parts_stripes_12_o [4, 6, 7, 9, 10, 19, 20, 21, 30, 31, 32, 45] := go_region _ _
@[go_sem] def r_foot_parts_stripes_13_o : Ops := [
oo 2 (.asg (.c .nilS)), oo 3 (.asg (.c (.bool false)))]
def r_foot_parts_stripes_13 := rg r_foot_parts_stripes_13_o [2, 3]
@[go_sem] theorem r_foot_parts_stripes_13_u : Gr X K s r_foot_parts_stripes_13 r_foot_parts_stripes_13_o [2, 3] := go_region _ _
@[go_sem] def r_foot_parts_stripes_14_o : Ops := [
oo 46 (.mv (.t 9)), oo 47 (.mv (.t 10)), oo 48 (.nilck (.t 46)), ow (.store 1 (.t 48) (.t 47))]
def r_foot_parts_stripes_14 := rg r_foot_parts_stripes_14_o [4, 6, 7, 19, 20, 21, 30, 31, 32]
@[go_sem] theorem r_foot_parts_stripes_14_u : Gr X K s r_foot_parts_stripes_14 r_foot_parts_stripes_14_o [4, 6, 7, 19, 20, 21, 30, 31, 32] := go_region _ _
@[go_sem] def r_foot_parts_stripes_15_o : Ops := [
oo 49 (.bin .add (.t 32) (ci 1)), oo 32 (.mv (.t 49))]
def r_foot_parts_stripes_15 := rg r_foot_parts_stripes_15_o [4, 6, 7, 19, 20, 21, 30, 31, 32]
@[go_sem] theorem r_foot_parts_stripes_15_u : Gr X K s r_foot_parts_stripes_15 r_foot_parts_stripes_15_o [4, 6, 7, 19, 20, 21, 30, 31, 32] := go_region _ _
def b_foot_parts_stripes_16 : ICode := (.seq r_foot_parts_stripes_9 (.seq (.cond (.t 33) .skip (.exit 2)) (.seq (.block 3 (.seq r_foot_parts_stripes_10 (.seq r_foot_parts_stripes_11 (.seq (.seq r_foot_parts_stripes_12 (.cond (.t 45) (.seq r_foot_parts_stripes_13 .ret) .skip)) r_foot_parts_stripes_14)))) r_foot_parts_stripes_15)))
@[go_sem] theorem b_foot_parts_stripes_16_u : Gn X K s b_foot_parts_stripes_16 (.seq r_foot_parts_stripes_9 (.seq (.cond (.t 33) .skip (.exit 2)) (.seq (.block 3 (.seq r_foot_parts_stripes_10 (.seq r_foot_parts_stripes_11 (.seq (.seq r_foot_parts_stripes_12 (.cond (.t 45) (.seq r_foot_parts_stripes_13 .ret) .skip)) r_foot_parts_stripes_14)))) r_foot_parts_stripes_15))) := rfl
@[go_sem] def r_foot_parts_stripes_17_o : Ops := [
oo 50 (.mv (.t 4)), oo 51 (.load (some 5) (.t 7)), oo 52 (.lit false 5 1 (.agg [(.int .i64 0), (.int .i64 0), (.int .i64 0), (.int .i64 0), (.int .i64 0)]) [(0, (.t 51))]), oo 53 (.append 5 40 (.t 50) (.t 52)), oo 4 (.asg (.t 53))]
def r_foot_parts_stripes_17 := rg r_foot_parts_stripes_17_o [4, 19, 20, 21]
@[go_sem] theorem r_foot_parts_stripes_17_u : Gr X K s r_foot_parts_stripes_17 r_foot_parts_stripes_17_o [4, 19, 20, 21] := go_region _ _
@[go_sem] def r_foot_parts_stripes_18_o : Ops := [
oo 54 (.bin .add (.t 21) (ci 1)), oo 21 (.mv (.t 54))]
def r_foot_parts_stripes_18 := rg r_foot_parts_stripes_18_o [4, 19, 20, 21]
@[go_sem] theorem r_foot_parts_stripes_18_u : Gr X K s r_foot_parts_stripes_18 r_foot_parts_stripes_18_o [4, 19, 20, 21] := go_region _ _
def b_foot_parts_stripes_19 : ICode := (.seq r_foot_parts_stripes_5 (.seq (.cond (.t 22) .skip (.exit 0)) (.seq (.block 1 (.seq r_foot_parts_stripes_6 (.seq (.seq (.free 7) r_foot_parts_stripes_7) (.seq (.seq r_foot_parts_stripes_8 (.block 2 (.loop b_foot_parts_stripes_16))) r_foot_parts_stripes_17)))) r_foot_parts_stripes_18)))
@[go_sem] theorem b_foot_parts_stripes_19_u : Gn X K s b_foot_parts_stripes_19 (.seq r_foot_parts_stripes_5 (.seq (.cond (.t 22) .skip (.exit 0)) (.seq (.block 1 (.seq r_foot_parts_stripes_6 (.seq (.seq (.free 7) r_foot_parts_stripes_7) (.seq (.seq r_foot_parts_stripes_8 (.block 2 (.loop b_foot_parts_stripes_16))) r_foot_parts_stripes_17)))) r_foot_parts_stripes_18))) := rfl
@[go_sem] def r_foot_parts_stripes_20_o : Ops := [
oo 55 (.mv (.t 4)), oo 56 (.call false n_slices_Clip_Sfoot_Stripe_foot_Stripe [(.t 55)]), oo 2 (.asg (.t 56)), oo 3 (.asg (.c (.bool true)))]
def r_foot_parts_stripes_20 := rg r_foot_parts_stripes_20_o [2, 3]
@[go_sem] theorem r_foot_parts_stripes_20_u : Gr X K s r_foot_parts_stripes_20 r_foot_parts_stripes_20_o [2, 3] := go_region _ _
def c_foot_parts_stripes : ICode := (.seq r_foot_parts_stripes_0 (.seq r_foot_parts_stripes_1 (.cond (.t 16) (.seq r_foot_parts_stripes_2 .ret) (.seq r_foot_parts_stripes_3 (.seq (.seq r_foot_parts_stripes_4 (.block 0 (.loop b_foot_parts_stripes_19))) (.seq r_foot_parts_stripes_20 .ret))))))
def i_foot_parts_stripes : IFunc := ⟨1, [.t 2, .t 3], c_foot_parts_stripes⟩
def a_foot_parts_stripes : Advice := ⟨[53], [(18, [2, 3]), (17, [4, 19, 20, 21]), (16, [4, 19, 20, 21]), (15, [4, 6, 7, 19, 20, 21, 30, 31, 32]), (14, [4, 6, 7, 19, 20, 21, 30, 31, 32]), (13, [2, 3]), (12, [4, 6, 7, 9, 10, 19, 20, 21, 30, 31, 32, 45]), (11, [4, 6, 7, 9, 10, 11, 19, 20, 21, 30, 31, 32]), (10, [4, 6, 7, 8, 9, 19, 20, 21, 30, 31, 32]), (9, [4, 6, 7, 19, 20, 21, 30, 31, 32, 33]), (8, [4, 6, 7, 19, 20, 21, 30, 31, 32]), (7, [4, 6, 7, 19, 20, 21]), (6, [4, 6, 19, 20, 21]), (5, [4, 19, 20, 21, 22]), (4, [4, 19, 20, 21]), (3, [1, 4]), (2, [2, 3]), (1, [1, 16]), (0, [1])], [], [(7, [7])], [], []⟩
/-! ingot/pb.last -/
@[go_sem] def r_pb_last_0_o : Ops := [
oo 4 (.box 1 (.t 1)), oo 5 (.box 1 (.t 2)), oo 6 (.alloc [(.int .i64 0), (.int .i64 0), (.int .u64 0), .nilS, (.int .i64 0)]), oo 7 (.alloc [(.bool false)])]
def r_pb_last_0 := rg r_pb_last_0_o [0, 4, 5, 6, 7]
@[go_sem] theorem r_pb_last_0_u : Gr X K s r_pb_last_0 r_pb_last_0_o [0, 4, 5, 6, 7] := go_region _ _
@[go_sem] def r_pb_last_1_o : Ops := [
oo 10 (.mv (.t 0)), oo 11 (.call false n_slices_Backward_Spb_Field_pb_Field [(.t 10)])]
def r_pb_last_1 := rg r_pb_last_1_o [4, 5, 6, 7, 11]
@[go_sem] theorem r_pb_last_1_u : Gr X K s r_pb_last_1 r_pb_last_1_o [4, 5, 6, 7, 11] := go_region _ _
@[go_sem] def r_pb_last_2_o : Ops := [
oo 9 (.alloc [(.int .i64 0), (.int .i64 0), (.int .u64 0), .nilS, (.int .i64 0)]), ow (.store 5 (.t 9) (.t 13))]
def r_pb_last_2 := rg r_pb_last_2_o [4, 5, 6, 7, 9]
@[go_sem] theorem r_pb_last_2_u : Gr X K s r_pb_last_2 r_pb_last_2_o [4, 5, 6, 7, 9] := go_region _ _
def b_pb_last_3 : ICode := r_pb_last_2
@[go_sem] theorem b_pb_last_3_u : Gn X K s b_pb_last_3 r_pb_last_2 := rfl
@[go_sem] def r_pb_last_4_o : Ops := [
oo 14 (.fieldA 0 (.t 9)), oo 15 (.load none (.t 14)), oo 16 (.load none (.t 4)), oo 17 (.bin .eql (.t 15) (.t 16)), oo 18 (.mv (.t 17)), og 19 18 true (.fieldA 1 (.t 9)), og 20 18 true (.load none (.t 19)), og 21 18 true (.load none (.t 5)), og 22 18 true (.bin .eql (.t 20) (.t 21)), oo 23 (.pick (.t 18) (.t 22) (.c (.bool false)))]
def r_pb_last_4 := rg r_pb_last_4_o [6, 7, 9, 23]
@[go_sem] theorem r_pb_last_4_u : Gr X K s r_pb_last_4 r_pb_last_4_o [6, 7, 9, 23] := go_region _ _
@[go_sem] def r_pb_last_5_o : Ops := [
oo 24 (.load (some 5) (.t 9)), ow (.store 5 (.t 6) (.t 24)), ow (.store 1 (.t 7) (.c (.bool true)))]
def r_pb_last_5 := rg r_pb_last_5_o [6, 7]
@[go_sem] theorem r_pb_last_5_u : Gr X K s r_pb_last_5 r_pb_last_5_o [6, 7] := go_region _ _
def b_pb_last_6 : ICode := (.block 1 (.seq r_pb_last_4 (.cond (.t 23) (.seq r_pb_last_5 .ret) .skip)))
@[go_sem] theorem b_pb_last_6_u : Gn X K s b_pb_last_6 (.block 1 (.seq r_pb_last_4 (.cond (.t 23) (.seq r_pb_last_5 .ret) .skip))) := rfl
@[go_sem] def r_pb_last_7_o : Ops := [
oo 25 (.build [(.int .i64 0), (.int .i64 0), (.int .u64 0), .nilS, (.int .i64 0)] []), ow (.store 5 (.t 6) (.t 25)), ow (.store 1 (.t 7) (.c (.bool false)))]
def r_pb_last_7 := rg r_pb_last_7_o [6, 7]
@[go_sem] theorem r_pb_last_7_u : Gr X K s r_pb_last_7 r_pb_last_7_o [6, 7] := go_region _ _
def c_pb_last : ICode := (.seq r_pb_last_0 (.seq (.seq r_pb_last_1 (.block 0 (.each (.t 11) [12, 13] b_pb_last_3 b_pb_last_6))) (.seq r_pb_last_7 .ret)))
def i_pb_last : IFunc := ⟨3, [.cell 6 (some 5), .cell 7 none], c_pb_last⟩
def a_pb_last : Advice := ⟨[], [(5, [6, 7]), (4, [6, 7]), (3, [6, 7, 9, 23]), (2, [4, 5, 6, 7, 9]), (1, [4, 5, 6, 7, 11]), (0, [0, 4, 5, 6, 7])], [], [], [], []⟩
/-! ingot/pb.Uint -/
@[go_sem] def r_pb_Uint_0_o : Ops := [
oo 4 (.asg (.c (.int .u64 0))), oo 5 (.asg (.c (.bool false)))]
def r_pb_Uint_0 := rg r_pb_Uint_0_o [0, 1]
@[go_sem] theorem r_pb_Uint_0_u : Gr X K s r_pb_Uint_0 r_pb_Uint_0_o [0, 1] := go_region _ _
@[go_sem] def r_pb_Uint_1_o : Ops := [
oo 9 (.mv (.t 0)), oo 10 (.mv (.t 1)), oo 11 (.call false n_pb_last [(.t 9), (.t 10), (ci 0)]), oo 8 (.mv (.t 11)), oo 12 (.ext (.t 8) 0), oo 13 (.ext (.t 8) 1), oo 6 (.alloc [(.int .i64 0), (.int .i64 0), (.int .u64 0), .nilS, (.int .i64 0)]), ow (.store 5 (.t 6) (.t 12)), oo 7 (.asg (.t 13))]
def r_pb_Uint_1 := rg r_pb_Uint_1_o [6, 7]
@[go_sem] theorem r_pb_Uint_1_u : Gr X K s r_pb_Uint_1 r_pb_Uint_1_o [6, 7] := go_region _ _
@[go_sem] def r_pb_Uint_2_o : Ops := [
oo 14 (.fieldA 2 (.t 6)), oo 15 (.load none (.t 14)), oo 16 (.mv (.t 7)), oo 4 (.asg (.t 15)), oo 5 (.asg (.t 16))]
def r_pb_Uint_2 := rg r_pb_Uint_2_o [4, 5]
@[go_sem] theorem r_pb_Uint_2_u : Gr X K s r_pb_Uint_2 r_pb_Uint_2_o [4, 5] := go_region _ _
def c_pb_Uint : ICode := (.seq r_pb_Uint_0 (.seq r_pb_Uint_1 (.seq r_pb_Uint_2 .ret)))
def i_pb_Uint : IFunc := ⟨2, [.t 4, .t 5], c_pb_Uint⟩
def a_pb_Uint : Advice := ⟨[], [(2, [4, 5]), (1, [6, 7]), (0, [0, 1])], [], [], [], []⟩
/-! ingot/foot.number -/
@[go_sem] def r_foot_number_0_o : Ops := [
oo 4 (.asg (ci 0)), oo 5 (.asg (.c (.bool false)))]
def r_foot_number_0 := rg r_foot_number_0_o [0, 1]
@[go_sem] theorem r_foot_number_0_u : Gr X K s r_foot_number_0 r_foot_number_0_o [0, 1] := go_region _ _
@[go_sem] def r_foot_number_1_o : Ops := [
oo 9 (.mv (.t 0)), oo 10 (.mv (.t 1)), oo 11 (.call false n_pb_Uint [(.t 9), (.t 10)]), oo 8 (.mv (.t 11)), oo 12 (.ext (.t 8) 0), oo 13 (.ext (.t 8) 1), oo 6 (.asg (.t 12)), oo 7 (.asg (.t 13))]
def r_foot_number_1 := rg r_foot_number_1_o [6]
@[go_sem] theorem r_foot_number_1_u : Gr X K s r_foot_number_1 r_foot_number_1_o [6] := go_region _ _
@[go_sem] def r_foot_number_2_o : Ops := [
oo 14 (.mv (.t 6)), oo 15 (.bin .gtr (.t 14) (.c (.int .u64 262144)))]
def r_foot_number_2 := rg r_foot_number_2_o [6, 15]
@[go_sem] theorem r_foot_number_2_u : Gr X K s r_foot_number_2 r_foot_number_2_o [6, 15] := go_region _ _
@[go_sem] def r_foot_number_3_o : Ops := [
oo 4 (.asg (ci 0)), oo 5 (.asg (.c (.bool false)))]
def r_foot_number_3 := rg r_foot_number_3_o [4, 5]
@[go_sem] theorem r_foot_number_3_u : Gr X K s r_foot_number_3 r_foot_number_3_o [4, 5] := go_region _ _
@[go_sem] def r_foot_number_4_o : Ops := [
oo 16 (.mv (.t 6)), oo 17 (.cvInt .i64 (.t 16)), oo 4 (.asg (.t 17)), oo 5 (.asg (.c (.bool true)))]
def r_foot_number_4 := rg r_foot_number_4_o [4, 5]
@[go_sem] theorem r_foot_number_4_u : Gr X K s r_foot_number_4 r_foot_number_4_o [4, 5] := go_region _ _
def c_foot_number : ICode := (.seq r_foot_number_0 (.seq r_foot_number_1 (.seq r_foot_number_2 (.cond (.t 15) (.seq r_foot_number_3 .ret) (.seq r_foot_number_4 .ret)))))
def i_foot_number : IFunc := ⟨2, [.t 4, .t 5], c_foot_number⟩
def a_foot_number : Advice := ⟨[], [(4, [4, 5]), (3, [4, 5]), (2, [6, 15]), (1, [6]), (0, [0, 1])], [], [], [], []⟩
/-! ingot/foot.split -/
@[go_sem] def r_foot_split_0_o : Ops := [
oo 2 (.alloc [.nilS, .nilS, .nilS, .nilS, .nilS, .nilS, .nilS, .nilS, .nilS]), oo 3 (.asg (ci 0))]
def r_foot_split_0 := rg r_foot_split_0_o [0, 2]
@[go_sem] theorem r_foot_split_0_u : Gr X K s r_foot_split_0 r_foot_split_0_o [0, 2] := go_region _ _
@[go_sem] def r_foot_split_1_o : Ops := [
oo 4 (.alloc [.nilS, .nilS, .nilS, .nilS, .nilS, .nilS, .nilS, .nilS, .nilS])]
def r_foot_split_1 := rg r_foot_split_1_o [0, 2, 4]
@[go_sem] theorem r_foot_split_1_u : Gr X K s r_foot_split_1 r_foot_split_1_o [0, 2, 4] := go_region _ _
@[go_sem] def r_foot_split_2_o : Ops := [
oo 9 (.mv (.t 0)), oo 10 (.len false (.t 9)), oo 11 (.mv (ci 0))]
def r_foot_split_2 := rg r_foot_split_2_o [2, 4, 9, 10, 11]
@[go_sem] theorem r_foot_split_2_u : Gr X K s r_foot_split_2 r_foot_split_2_o [2, 4, 9, 10, 11] := go_region _ _
@[go_sem] def r_foot_split_3_o : Ops := [
oo 12 (.bin .lss (.t 11) (.t 10))]
def r_foot_split_3 := rg r_foot_split_3_o [2, 4, 9, 10, 11, 12]
@[go_sem] theorem r_foot_split_3_u : Gr X K s r_foot_split_3 r_foot_split_3_o [2, 4, 9, 10, 11, 12] := go_region _ _
@[go_sem] def r_foot_split_4_o : Ops := [
oo 13 (.idxA 5 (.t 9) (.t 11)), oo 14 (.load (some 5) (.t 13)), oo 6 (.alloc [(.int .i64 0), (.int .i64 0), (.int .u64 0), .nilS, (.int .i64 0)]), ow (.store 5 (.t 6) (.t 14))]
def r_foot_split_4 := rg r_foot_split_4_o [2, 4, 6, 9, 10, 11]
@[go_sem] theorem r_foot_split_4_u : Gr X K s r_foot_split_4 r_foot_split_4_o [2, 4, 6, 9, 10, 11] := go_region _ _
@[go_sem] def r_foot_split_5_o : Ops := [
oo 15 (.fieldA 1 (.t 6)), oo 16 (.load none (.t 15)), oo 17 (.bin .neq (.t 16) (ci 2))]
def r_foot_split_5 := rg r_foot_split_5_o [2, 4, 6, 9, 10, 11, 17]
@[go_sem] theorem r_foot_split_5_u : Gr X K s r_foot_split_5 r_foot_split_5_o [2, 4, 6, 9, 10, 11, 17] := go_region _ _
@[go_sem] def r_foot_split_6_o : Ops := [
oo 18 (.fieldA 0 (.t 6)), oo 19 (.load none (.t 18))]
def r_foot_split_6 := rg r_foot_split_6_o [2, 4, 6, 9, 10, 11, 19]
@[go_sem] theorem r_foot_split_6_u : Gr X K s r_foot_split_6 r_foot_split_6_o [2, 4, 6, 9, 10, 11, 19] := go_region _ _
@[go_sem] def r_foot_split_7_o : Ops := [
oo 21 (.bin .eql (.t 19) (ci 7)), oo 20 (.asg (.t 21))]
def r_foot_split_7 := rg r_foot_split_7_o [2, 4, 6, 9, 10, 11, 19, 20]
@[go_sem] theorem r_foot_split_7_u : Gr X K s r_foot_split_7 r_foot_split_7_o [2, 4, 6, 9, 10, 11, 19, 20] := go_region _ _
@[go_sem] def r_foot_split_8_o : Ops := [
oo 23 (.bin .eql (.t 19) (ci 3)), oo 22 (.asg (.t 23))]
def r_foot_split_8 := rg r_foot_split_8_o [2, 4, 6, 9, 10, 11, 19, 22]
@[go_sem] theorem r_foot_split_8_u : Gr X K s r_foot_split_8 r_foot_split_8_o [2, 4, 6, 9, 10, 11, 19, 22] := go_region _ _
@[go_sem] def r_foot_split_9_o : Ops := [
oo 24 (.bin .eql (.t 19) (ci 4)), oo 22 (.asg (.t 24))]
def r_foot_split_9 := rg r_foot_split_9_o [2, 4, 6, 9, 10, 11, 19, 22]
@[go_sem] theorem r_foot_split_9_u : Gr X K s r_foot_split_9 r_foot_split_9_o [2, 4, 6, 9, 10, 11, 19, 22] := go_region _ _
@[go_sem] def r_foot_split_10_o : Ops := [
oo 25 (.bin .eql (.t 19) (ci 5)), oo 22 (.asg (.t 25))]
def r_foot_split_10 := rg r_foot_split_10_o [2, 4, 6, 9, 10, 11, 22]
@[go_sem] theorem r_foot_split_10_u : Gr X K s r_foot_split_10 r_foot_split_10_o [2, 4, 6, 9, 10, 11, 22] := go_region _ _
@[go_sem] def r_foot_split_11_o : Ops := [
oo 26 (.fieldA 8 (.t 4)), oo 27 (.load none (.t 26)), oo 28 (.fieldA 3 (.t 6)), oo 29 (.load none (.t 28)), oo 30 (.lit false 1 1 (.sl []) [(0, (.t 29))]), oo 31 (.append 1 24 (.t 27) (.t 30)), oo 32 (.fieldA 8 (.t 4)), ow (.store 1 (.t 32) (.t 31))]
def r_foot_split_11 := rg r_foot_split_11_o [2, 4, 6, 9, 10, 11]
@[go_sem] theorem r_foot_split_11_u : Gr X K s r_foot_split_11 r_foot_split_11_o [2, 4, 6, 9, 10, 11] := go_region _ _
@[go_sem] def r_foot_split_12_o : Ops := [
oo 34 (.fieldA 3 (.t 6)), oo 35 (.load none (.t 34)), oo 36 (.call false n_pb_Parse [(.t 35)]), oo 33 (.mv (.t 36)), oo 37 (.ext (.t 33) 0), oo 38 (.ext (.t 33) 1), oo 7 (.asg (.t 37)), oo 8 (.asg (.t 38))]
def r_foot_split_12 := rg r_foot_split_12_o [2, 4, 6, 7, 8, 9, 10, 11]
@[go_sem] theorem r_foot_split_12_u : Gr X K s r_foot_split_12 r_foot_split_12_o [2, 4, 6, 7, 8, 9, 10, 11] := go_region _ _
@[go_sem] def r_foot_split_13_o : Ops := [
oo 39 (.mv (.t 8)), oo 40 (.bin .neq (.t 39) (ci 0))]
def r_foot_split_13 := rg r_foot_split_13_o [2, 4, 6, 7, 8, 9, 10, 11, 40]
@[go_sem] theorem r_foot_split_13_u : Gr X K s r_foot_split_13 r_foot_split_13_o [2, 4, 6, 7, 8, 9, 10, 11, 40] := go_region _ _
@[go_sem] def r_foot_split_14_o : Ops := [
oo 41 (.load (some 9) (.t 4)), oo 42 (.mv (.t 8)), ow (.store 9 (.t 2) (.t 41)), oo 3 (.asg (.t 42))]
def r_foot_split_14 := rg r_foot_split_14_o [2, 3]
@[go_sem] theorem r_foot_split_14_u : Gr X K s r_foot_split_14 r_foot_split_14_o [2, 3] := go_region _ _
@[go_sem] def r_foot_split_15_o : Ops := [
oo 43 (.fieldA 0 (.t 6)), oo 44 (.load none (.t 43)), oo 45 (.fieldA 0 (.t 6)), oo 46 (.load none (.t 45)), oo 47 (.fieldA 0 (.t 4)), oo 48 (.idxB 8 1 (.t 47) (.t 46)), oo 49 (.load none (.t 48)), oo 50 (.mv (.t 7)), oo 51 (.lit false 1 1 (.sl []) [(0, (.t 50))]), oo 52 (.append 1 24 (.t 49) (.t 51)), oo 53 (.fieldA 0 (.t 4)), oo 54 (.idxB 8 1 (.t 53) (.t 44)), ow (.store 1 (.t 54) (.t 52))]
def r_foot_split_15_n : List (Nat × Nat) := [(0, 2), (1, 2), (0, 3), (1, 3), (0, 4), (1, 4), (2, 4), (3, 4), (0, 5), (1, 5), (0, 6), (1, 6), (0, 7), (1, 7), (2, 7), (3, 7), (4, 7), (5, 7), (6, 7), (0, 8), (1, 8), (2, 8), (3, 8), (4, 8), (5, 8), (6, 8), (0, 9), (1, 9), (0, 10), (1, 10), (2, 10), (3, 10), (4, 10), (5, 10), (6, 10), (7, 10), (8, 10), (9, 10)]
def r_foot_split_15 : ICode := .region r_foot_split_15_o r_foot_split_15_n [2, 4, 9, 10, 11]
@[go_sem] theorem r_foot_split_15_u : go X (.c r_foot_split_15 :: K) s = goRU X [] r_foot_split_15_n r_foot_split_15_o [2, 4, 9, 10, 11] K s := go_regionU' _ _ _ _
@[go_sem] def r_foot_split_16_o : Ops := [
oo 55 (.bin .add (.t 11) (ci 1)), oo 11 (.mv (.t 55))]
def r_foot_split_16 := rg r_foot_split_16_o [2, 4, 9, 10, 11]
@[go_sem] theorem r_foot_split_16_u : Gr X K s r_foot_split_16 r_foot_split_16_o [2, 4, 9, 10, 11] := go_region _ _
def b_foot_split_17 : ICode := (.seq r_foot_split_3 (.seq (.cond (.t 12) .skip (.exit 0)) (.seq (.block 1 (.seq (.seq (.free 6) r_foot_split_4) (.seq (.seq r_foot_split_5 (.cond (.t 17) (.exit 1) .skip)) (.seq r_foot_split_6 (.block 2 (.seq (.block 4 (.seq (.block 3 (.seq (.seq (.seq r_foot_split_7 (.cond (.t 20) (.exit 3) .skip)) (.seq (.seq r_foot_split_8 (.cond (.t 22) .skip (.seq r_foot_split_9 (.cond (.t 22) .skip r_foot_split_10)))) (.cond (.t 22) (.exit 4) .skip))) (.exit 2))) r_foot_split_11)) (.seq (.seq r_foot_split_12 (.seq (.seq r_foot_split_13 (.cond (.t 40) (.seq r_foot_split_14 .ret) .skip)) r_foot_split_15)) (.exit 2)))))))) r_foot_split_16)))
@[go_sem] theorem b_foot_split_17_u : Gn X K s b_foot_split_17 (.seq r_foot_split_3 (.seq (.cond (.t 12) .skip (.exit 0)) (.seq (.block 1 (.seq (.seq (.free 6) r_foot_split_4) (.seq (.seq r_foot_split_5 (.cond (.t 17) (.exit 1) .skip)) (.seq r_foot_split_6 (.block 2 (.seq (.block 4 (.seq (.block 3 (.seq (.seq (.seq r_foot_split_7 (.cond (.t 20) (.exit 3) .skip)) (.seq (.seq r_foot_split_8 (.cond (.t 22) .skip (.seq r_foot_split_9 (.cond (.t 22) .skip r_foot_split_10)))) (.cond (.t 22) (.exit 4) .skip))) (.exit 2))) r_foot_split_11)) (.seq (.seq r_foot_split_12 (.seq (.seq r_foot_split_13 (.cond (.t 40) (.seq r_foot_split_14 .ret) .skip)) r_foot_split_15)) (.exit 2)))))))) r_foot_split_16))) := rfl
@[go_sem] def r_foot_split_18_o : Ops := [
oo 56 (.load (some 9) (.t 4)), ow (.store 9 (.t 2) (.t 56)), oo 3 (.asg (ci 0))]
def r_foot_split_18 := rg r_foot_split_18_o [2, 3]
@[go_sem] theorem r_foot_split_18_u : Gr X K s r_foot_split_18 r_foot_split_18_o [2, 3] := go_region _ _
def c_foot_split : ICode := (.seq r_foot_split_0 (.seq r_foot_split_1 (.seq (.seq r_foot_split_2 (.block 0 (.loop b_foot_split_17))) (.seq r_foot_split_18 .ret))))
def i_foot_split : IFunc := ⟨1, [.cell 2 (some 9), .t 3], c_foot_split⟩
def a_foot_split : Advice := ⟨[31], [(17, [2, 3]), (16, [2, 4, 9, 10, 11]), (15, [2, 4, 9, 10, 11]), (14, [2, 3]), (13, [2, 4, 6, 7, 8, 9, 10, 11, 40]), (12, [2, 4, 6, 7, 8, 9, 10, 11]), (11, [2, 4, 6, 9, 10, 11]), (10, [2, 4, 6, 9, 10, 11, 22]), (9, [2, 4, 6, 9, 10, 11, 19, 22]), (8, [2, 4, 6, 9, 10, 11, 19, 22]), (7, [2, 4, 6, 9, 10, 11, 19, 20]), (6, [2, 4, 6, 9, 10, 11, 19]), (5, [2, 4, 6, 9, 10, 11, 17]), (4, [2, 4, 6, 9, 10, 11]), (3, [2, 4, 9, 10, 11, 12]), (2, [2, 4, 9, 10, 11]), (1, [0, 2, 4]), (0, [0, 2])], [], [(4, [6])], [], []⟩
/-! ingot/nums.Var -/
@[go_sem] def r_nums_Var_0_o : Ops := [
oo 4 (.asg (.c (.int .u64 0))), oo 5 (.asg (ci 0)), oo 6 (.asg (ci 0))]
def r_nums_Var_0 := rg r_nums_Var_0_o [0, 1, 4]
@[go_sem] theorem r_nums_Var_0_u : Gr X K s r_nums_Var_0 r_nums_Var_0_o [0, 1, 4] := go_region _ _
@[go_sem] def r_nums_Var_1_o : Ops := [
oo 9 (.mv (.t 1)), oo 10 (.bin .lss (.t 9) (ci 0)), oo 11 (.mv (.t 10)), og 12 11 false (.mv (.t 1)), og 13 11 false (.mv (.t 0)), og 14 11 false (.len false (.t 13)), og 15 11 false (.bin .gtr (.t 12) (.t 14)), oo 16 (.pick (.t 11) (.c (.bool true)) (.t 15))]
def r_nums_Var_1 := rg r_nums_Var_1_o [0, 1, 4, 16]
@[go_sem] theorem r_nums_Var_1_u : Gr X K s r_nums_Var_1 r_nums_Var_1_o [0, 1, 4, 16] := go_region _ _
@[go_sem] def r_nums_Var_2_o : Ops := [
oo 4 (.asg (.c (.int .u64 0))), oo 5 (.asg (ci 0)), oo 6 (.asg (ci 1))]
def r_nums_Var_2 := rg r_nums_Var_2_o [4, 5, 6]
@[go_sem] theorem r_nums_Var_2_u : Gr X K s r_nums_Var_2 r_nums_Var_2_o [4, 5, 6] := go_region _ _
@[go_sem] def r_nums_Var_3_o : Ops := [
oo 17 (.mv (.t 0)), oo 18 (.mv (.t 1)), oo 19 (.slice 1 (.t 17) (some (.t 18)) none none), oo 20 (.len false (.t 19)), oo 21 (.mv (ci 0))]
def r_nums_Var_3 := rg r_nums_Var_3_o [4, 19, 20, 21]
@[go_sem] theorem r_nums_Var_3_u : Gr X K s r_nums_Var_3 r_nums_Var_3_o [4, 19, 20, 21] := go_region _ _
@[go_sem] def r_nums_Var_4_o : Ops := [
oo 22 (.bin .lss (.t 21) (.t 20))]
def r_nums_Var_4 := rg r_nums_Var_4_o [4, 19, 20, 21, 22]
@[go_sem] theorem r_nums_Var_4_u : Gr X K s r_nums_Var_4 r_nums_Var_4_o [4, 19, 20, 21, 22] := go_region _ _
@[go_sem] def r_nums_Var_5_o : Ops := [
oo 23 (.mv (.t 21)), oo 24 (.idxA 1 (.t 19) (.t 21)), oo 25 (.load none (.t 24)), oo 7 (.asg (.t 23)), oo 8 (.asg (.t 25))]
def r_nums_Var_5 := rg r_nums_Var_5_o [4, 7, 8, 19, 20, 21]
@[go_sem] theorem r_nums_Var_5_u : Gr X K s r_nums_Var_5 r_nums_Var_5_o [4, 7, 8, 19, 20, 21] := go_region _ _
@[go_sem] def r_nums_Var_6_o : Ops := [
oo 26 (.mv (.t 7)), oo 27 (.bin .eql (.t 26) (ci 9)), oo 28 (.mv (.t 27)), og 29 28 true (.mv (.t 8)), og 30 28 true (.bin .gtr (.t 29) (.c (.int .u8 1))), oo 31 (.pick (.t 28) (.t 30) (.c (.bool false)))]
def r_nums_Var_6 := rg r_nums_Var_6_o [4, 7, 8, 19, 20, 21, 31]
@[go_sem] theorem r_nums_Var_6_u : Gr X K s r_nums_Var_6 r_nums_Var_6_o [4, 7, 8, 19, 20, 21, 31] := go_region _ _
@[go_sem] def r_nums_Var_7_o : Ops := [
oo 4 (.asg (.c (.int .u64 0))), oo 5 (.asg (ci 0)), oo 6 (.asg (ci 4))]
def r_nums_Var_7 := rg r_nums_Var_7_o [4, 5, 6]
@[go_sem] theorem r_nums_Var_7_u : Gr X K s r_nums_Var_7 r_nums_Var_7_o [4, 5, 6] := go_region _ _
@[go_sem] def r_nums_Var_8_o : Ops := [
oo 32 (.mv (.t 4)), oo 33 (.mv (.t 8)), oo 34 (.bin .andNot (.t 33) (.c (.int .u8 128))), oo 35 (.cvInt .u64 (.t 34)), oo 36 (.mv (.t 7)), oo 37 (.bin .mul (ci 7) (.t 36)), oo 38 (.bin .shl (.t 35) (.t 37)), oo 39 (.bin .or (.t 32) (.t 38)), oo 4 (.asg (.t 39))]
def r_nums_Var_8 := rg r_nums_Var_8_o [4, 7, 8, 19, 20, 21]
@[go_sem] theorem r_nums_Var_8_u : Gr X K s r_nums_Var_8 r_nums_Var_8_o [4, 7, 8, 19, 20, 21] := go_region _ _
@[go_sem] def r_nums_Var_9_o : Ops := [
oo 40 (.mv (.t 8)), oo 41 (.bin .lss (.t 40) (.c (.int .u8 128)))]
def r_nums_Var_9 := rg r_nums_Var_9_o [4, 7, 19, 20, 21, 41]
@[go_sem] theorem r_nums_Var_9_u : Gr X K s r_nums_Var_9 r_nums_Var_9_o [4, 7, 19, 20, 21, 41] := go_region _ _
@[go_sem] def r_nums_Var_10_o : Ops := [
oo 42 (.mv (.t 4)), oo 43 (.mv (.t 7)), oo 44 (.bin .add (.t 43) (ci 1)), oo 4 (.asg (.t 42)), oo 5 (.asg (.t 44)), oo 6 (.asg (ci 0))]
def r_nums_Var_10 := rg r_nums_Var_10_o [4, 5, 6]
@[go_sem] theorem r_nums_Var_10_u : Gr X K s r_nums_Var_10 r_nums_Var_10_o [4, 5, 6] := go_region _ _
@[go_sem] def r_nums_Var_11_o : Ops := [
oo 45 (.bin .add (.t 21) (ci 1)), oo 21 (.mv (.t 45))]
def r_nums_Var_11 := rg r_nums_Var_11_o [4, 19, 20, 21]
@[go_sem] theorem r_nums_Var_11_u : Gr X K s r_nums_Var_11 r_nums_Var_11_o [4, 19, 20, 21] := go_region _ _
def b_nums_Var_12 : ICode := (.seq r_nums_Var_4 (.seq (.cond (.t 22) .skip (.exit 0)) (.seq (.block 1 (.seq r_nums_Var_5 (.seq (.seq r_nums_Var_6 (.cond (.t 31) (.seq r_nums_Var_7 .ret) .skip)) (.seq r_nums_Var_8 (.seq r_nums_Var_9 (.cond (.t 41) (.seq r_nums_Var_10 .ret) .skip)))))) r_nums_Var_11)))
@[go_sem] theorem b_nums_Var_12_u : Gn X K s b_nums_Var_12 (.seq r_nums_Var_4 (.seq (.cond (.t 22) .skip (.exit 0)) (.seq (.block 1 (.seq r_nums_Var_5 (.seq (.seq r_nums_Var_6 (.cond (.t 31) (.seq r_nums_Var_7 .ret) .skip)) (.seq r_nums_Var_8 (.seq r_nums_Var_9 (.cond (.t 41) (.seq r_nums_Var_10 .ret) .skip)))))) r_nums_Var_11))) := rfl
@[go_sem] def r_nums_Var_13_o : Ops := [
oo 4 (.asg (.c (.int .u64 0))), oo 5 (.asg (ci 0)), oo 6 (.asg (ci 3))]
def r_nums_Var_13 := rg r_nums_Var_13_o [4, 5, 6]
@[go_sem] theorem r_nums_Var_13_u : Gr X K s r_nums_Var_13 r_nums_Var_13_o [4, 5, 6] := go_region _ _
def c_nums_Var : ICode := (.seq r_nums_Var_0 (.seq r_nums_Var_1 (.cond (.t 16) (.seq r_nums_Var_2 .ret) (.seq (.seq r_nums_Var_3 (.block 0 (.loop b_nums_Var_12))) (.seq r_nums_Var_13 .ret)))))
def i_nums_Var : IFunc := ⟨2, [.t 4, .t 5, .t 6], c_nums_Var⟩
def a_nums_Var : Advice := ⟨[], [(12, [4, 5, 6]), (11, [4, 19, 20, 21]), (10, [4, 5, 6]), (9, [4, 7, 19, 20, 21, 41]), (8, [4, 7, 8, 19, 20, 21]), (7, [4, 5, 6]), (6, [4, 7, 8, 19, 20, 21, 31]), (5, [4, 7, 8, 19, 20, 21]), (4, [4, 19, 20, 21, 22]), (3, [4, 19, 20, 21]), (2, [4, 5, 6]), (1, [0, 1, 4, 16]), (0, [0, 1, 4])], [], [], [], []⟩
/-! ingot/pb.field -/
@[go_sem] def r_pb_field_0_o : Ops := [
oo 4 (.alloc [(.int .i64 0), (.int .i64 0), (.int .u64 0), .nilS, (.int .i64 0)]), oo 5 (.asg (ci 0)), oo 6 (.asg (ci 0))]
def r_pb_field_0 := rg r_pb_field_0_o [0, 1, 4]
@[go_sem] theorem r_pb_field_0_u : Gr X K s r_pb_field_0 r_pb_field_0_o [0, 1, 4] := go_region _ _
@[go_sem] def r_pb_field_1_o : Ops := [
oo 18 (.mv (.t 0)), oo 19 (.mv (.t 1)), oo 20 (.call false n_nums_Var [(.t 18), (.t 19)]), oo 17 (.mv (.t 20)), oo 21 (.ext (.t 17) 0), oo 22 (.ext (.t 17) 1), oo 23 (.ext (.t 17) 2), oo 7 (.asg (.t 21)), oo 8 (.asg (.t 22)), oo 9 (.asg (.t 23))]
def r_pb_field_1 := rg r_pb_field_1_o [0, 1, 4, 7, 8, 9]
@[go_sem] theorem r_pb_field_1_u : Gr X K s r_pb_field_1 r_pb_field_1_o [0, 1, 4, 7, 8, 9] := go_region _ _
@[go_sem] def r_pb_field_2_o : Ops := [
oo 24 (.mv (.t 9)), oo 25 (.bin .neq (.t 24) (ci 0))]
def r_pb_field_2 := rg r_pb_field_2_o [0, 1, 4, 7, 8, 9, 25]
@[go_sem] theorem r_pb_field_2_u : Gr X K s r_pb_field_2 r_pb_field_2_o [0, 1, 4, 7, 8, 9, 25] := go_region _ _
@[go_sem] def r_pb_field_3_o : Ops := [
oo 26 (.build [(.int .i64 0), (.int .i64 0), (.int .u64 0), .nilS, (.int .i64 0)] []), oo 27 (.mv (.t 9)), ow (.store 5 (.t 4) (.t 26)), oo 5 (.asg (ci 0)), oo 6 (.asg (.t 27))]
def r_pb_field_3 := rg r_pb_field_3_o [4, 5, 6]
@[go_sem] theorem r_pb_field_3_u : Gr X K s r_pb_field_3 r_pb_field_3_o [4, 5, 6] := go_region _ _
@[go_sem] def r_pb_field_4_o : Ops := [
oo 28 (.mv (.t 7)), oo 29 (.bin .and (.t 28) (.c (.int .u64 7))), oo 30 (.cvInt .i64 (.t 29)), oo 31 (.mv (.t 1)), oo 32 (.build [(.int .i64 0), (.int .i64 0), (.int .u64 0), .nilS, (.int .i64 0)] [(1, 1, (.t 30)), (4, 1, (.t 31))]), oo 10 (.alloc [(.int .i64 0), (.int .i64 0), (.int .u64 0), .nilS, (.int .i64 0)]), ow (.store 5 (.t 10) (.t 32))]
def r_pb_field_4 := rg r_pb_field_4_o [0, 1, 4, 7, 8, 10]
@[go_sem] theorem r_pb_field_4_u : Gr X K s r_pb_field_4 r_pb_field_4_o [0, 1, 4, 7, 8, 10] := go_region _ _
@[go_sem] def r_pb_field_5_o : Ops := [
oo 33 (.mv (.t 7)), oo 34 (.bin .shr (.t 33) (.c (.int .u64 3))), oo 35 (.bin .lss (.t 34) (.c (.int .u64 1))), oo 36 (.mv (.t 35)), og 37 36 false (.mv (.t 7)), og 38 36 false (.bin .shr (.t 37) (.c (.int .u64 3))), og 39 36 false (.bin .gtr (.t 38) (.c (.int .u64 536870911))), oo 40 (.pick (.t 36) (.c (.bool true)) (.t 39))]
def r_pb_field_5 := rg r_pb_field_5_o [0, 1, 4, 7, 8, 10, 40]
@[go_sem] theorem r_pb_field_5_u : Gr X K s r_pb_field_5 r_pb_field_5_o [0, 1, 4, 7, 8, 10, 40] := go_region _ _
@[go_sem] def r_pb_field_6_o : Ops := [
oo 41 (.build [(.int .i64 0), (.int .i64 0), (.int .u64 0), .nilS, (.int .i64 0)] []), ow (.store 5 (.t 4) (.t 41)), oo 5 (.asg (ci 0)), oo 6 (.asg (ci 2))]
def r_pb_field_6 := rg r_pb_field_6_o [4, 5, 6]
@[go_sem] theorem r_pb_field_6_u : Gr X K s r_pb_field_6 r_pb_field_6_o [4, 5, 6] := go_region _ _
@[go_sem] def r_pb_field_7_o : Ops := [
oo 42 (.mv (.t 7)), oo 43 (.bin .shr (.t 42) (.c (.int .u64 3))), oo 44 (.cvInt .i64 (.t 43)), oo 45 (.fieldA 0 (.t 10)), ow (.store 1 (.t 45) (.t 44))]
def r_pb_field_7 := rg r_pb_field_7_o [0, 1, 4, 8, 10]
@[go_sem] theorem r_pb_field_7_u : Gr X K s r_pb_field_7 r_pb_field_7_o [0, 1, 4, 8, 10] := go_region _ _
@[go_sem] def r_pb_field_8_o : Ops := [
oo 11 (.asg (ci 0))]
def r_pb_field_8 := rg r_pb_field_8_o [0, 1, 4, 8, 10, 11]
@[go_sem] theorem r_pb_field_8_u : Gr X K s r_pb_field_8 r_pb_field_8_o [0, 1, 4, 8, 10, 11] := go_region _ _
@[go_sem] def r_pb_field_9_o : Ops := [
oo 46 (.fieldA 1 (.t 10)), oo 47 (.load none (.t 46))]
def r_pb_field_9 := rg r_pb_field_9_o [0, 1, 4, 8, 10, 11, 47]
@[go_sem] theorem r_pb_field_9_u : Gr X K s r_pb_field_9 r_pb_field_9_o [0, 1, 4, 8, 10, 11, 47] := go_region _ _
@[go_sem] def r_pb_field_10_o : Ops := [
oo 49 (.bin .eql (.t 47) (ci 0)), oo 48 (.asg (.t 49))]
def r_pb_field_10 := rg r_pb_field_10_o [0, 1, 4, 8, 10, 11, 47, 48]
@[go_sem] theorem r_pb_field_10_u : Gr X K s r_pb_field_10 r_pb_field_10_o [0, 1, 4, 8, 10, 11, 47, 48] := go_region _ _
@[go_sem] def r_pb_field_11_o : Ops := [
oo 50 (.bin .eql (.t 47) (ci 2)), oo 48 (.asg (.t 50))]
def r_pb_field_11 := rg r_pb_field_11_o [0, 1, 4, 8, 10, 11, 47, 48]
@[go_sem] theorem r_pb_field_11_u : Gr X K s r_pb_field_11 r_pb_field_11_o [0, 1, 4, 8, 10, 11, 47, 48] := go_region _ _
@[go_sem] def r_pb_field_12_o : Ops := [
oo 52 (.bin .eql (.t 47) (ci 1)), oo 51 (.asg (.t 52))]
def r_pb_field_12 := rg r_pb_field_12_o [0, 1, 4, 8, 10, 11, 47, 51]
@[go_sem] theorem r_pb_field_12_u : Gr X K s r_pb_field_12 r_pb_field_12_o [0, 1, 4, 8, 10, 11, 47, 51] := go_region _ _
@[go_sem] def r_pb_field_13_o : Ops := [
oo 54 (.bin .eql (.t 47) (ci 5)), oo 53 (.asg (.t 54))]
def r_pb_field_13 := rg r_pb_field_13_o [0, 1, 4, 8, 10, 11, 53]
@[go_sem] theorem r_pb_field_13_u : Gr X K s r_pb_field_13 r_pb_field_13_o [0, 1, 4, 8, 10, 11, 53] := go_region _ _
@[go_sem] def r_pb_field_14_o : Ops := [
oo 56 (.mv (.t 0)), oo 57 (.mv (.t 1)), oo 58 (.mv (.t 8)), oo 59 (.bin .add (.t 57) (.t 58)), oo 60 (.call false n_nums_Var [(.t 56), (.t 59)]), oo 55 (.mv (.t 60)), oo 61 (.ext (.t 55) 0), oo 62 (.ext (.t 55) 1), oo 63 (.ext (.t 55) 2), oo 12 (.asg (.t 61)), oo 13 (.asg (.t 62)), oo 14 (.asg (.t 63))]
def r_pb_field_14 := rg r_pb_field_14_o [0, 1, 4, 8, 10, 12, 13, 14]
@[go_sem] theorem r_pb_field_14_u : Gr X K s r_pb_field_14 r_pb_field_14_o [0, 1, 4, 8, 10, 12, 13, 14] := go_region _ _
@[go_sem] def r_pb_field_15_o : Ops := [
oo 64 (.mv (.t 14)), oo 65 (.bin .neq (.t 64) (ci 0))]
def r_pb_field_15 := rg r_pb_field_15_o [0, 1, 4, 8, 10, 12, 13, 14, 65]
@[go_sem] theorem r_pb_field_15_u : Gr X K s r_pb_field_15 r_pb_field_15_o [0, 1, 4, 8, 10, 12, 13, 14, 65] := go_region _ _
@[go_sem] def r_pb_field_16_o : Ops := [
oo 66 (.build [(.int .i64 0), (.int .i64 0), (.int .u64 0), .nilS, (.int .i64 0)] []), oo 67 (.mv (.t 14)), ow (.store 5 (.t 4) (.t 66)), oo 5 (.asg (ci 0)), oo 6 (.asg (.t 67))]
def r_pb_field_16 := rg r_pb_field_16_o [4, 5, 6]
@[go_sem] theorem r_pb_field_16_u : Gr X K s r_pb_field_16 r_pb_field_16_o [4, 5, 6] := go_region _ _
@[go_sem] def r_pb_field_17_o : Ops := [
oo 68 (.mv (.t 8)), oo 69 (.mv (.t 13)), oo 70 (.bin .add (.t 68) (.t 69)), oo 8 (.asg (.t 70))]
def r_pb_field_17 := rg r_pb_field_17_o [0, 1, 4, 8, 10, 12]
@[go_sem] theorem r_pb_field_17_u : Gr X K s r_pb_field_17 r_pb_field_17_o [0, 1, 4, 8, 10, 12] := go_region _ _
@[go_sem] def r_pb_field_18_o : Ops := [
oo 71 (.fieldA 1 (.t 10)), oo 72 (.load none (.t 71)), oo 73 (.bin .eql (.t 72) (ci 0))]
def r_pb_field_18 := rg r_pb_field_18_o [0, 1, 4, 8, 10, 12, 73]
@[go_sem] theorem r_pb_field_18_u : Gr X K s r_pb_field_18 r_pb_field_18_o [0, 1, 4, 8, 10, 12, 73] := go_region _ _
@[go_sem] def r_pb_field_19_o : Ops := [
oo 74 (.mv (.t 12)), oo 75 (.fieldA 2 (.t 10)), ow (.store 1 (.t 75) (.t 74))]
def r_pb_field_19 := rg r_pb_field_19_o [4, 8, 10]
@[go_sem] theorem r_pb_field_19_u : Gr X K s r_pb_field_19 r_pb_field_19_o [4, 8, 10] := go_region _ _
@[go_sem] def r_pb_field_20_o : Ops := [
oo 76 (.load (some 5) (.t 10)), oo 77 (.mv (.t 8)), ow (.store 5 (.t 4) (.t 76)), oo 5 (.asg (.t 77)), oo 6 (.asg (ci 0))]
def r_pb_field_20 := rg r_pb_field_20_o [4, 5, 6]
@[go_sem] theorem r_pb_field_20_u : Gr X K s r_pb_field_20 r_pb_field_20_o [4, 5, 6] := go_region _ _
@[go_sem] def r_pb_field_21_o : Ops := [
oo 78 (.mv (.t 12)), oo 79 (.mv (.t 0)), oo 80 (.len false (.t 79)), oo 81 (.mv (.t 1)), oo 82 (.bin .sub (.t 80) (.t 81)), oo 83 (.mv (.t 8)), oo 84 (.bin .sub (.t 82) (.t 83)), oo 85 (.cvInt .u64 (.t 84)), oo 86 (.bin .gtr (.t 78) (.t 85))]
def r_pb_field_21 := rg r_pb_field_21_o [0, 1, 4, 8, 10, 12, 86]
@[go_sem] theorem r_pb_field_21_u : Gr X K s r_pb_field_21 r_pb_field_21_o [0, 1, 4, 8, 10, 12, 86] := go_region _ _
@[go_sem] def r_pb_field_22_o : Ops := [
oo 87 (.build [(.int .i64 0), (.int .i64 0), (.int .u64 0), .nilS, (.int .i64 0)] []), ow (.store 5 (.t 4) (.t 87)), oo 5 (.asg (ci 0)), oo 6 (.asg (ci 3))]
def r_pb_field_22 := rg r_pb_field_22_o [4, 5, 6]
@[go_sem] theorem r_pb_field_22_u : Gr X K s r_pb_field_22 r_pb_field_22_o [4, 5, 6] := go_region _ _
@[go_sem] def r_pb_field_23_o : Ops := [
oo 88 (.mv (.t 0)), oo 89 (.mv (.t 1)), oo 90 (.mv (.t 8)), oo 91 (.bin .add (.t 89) (.t 90)), oo 92 (.mv (.t 1)), oo 93 (.mv (.t 8)), oo 94 (.bin .add (.t 92) (.t 93)), oo 95 (.mv (.t 12)), oo 96 (.cvInt .i64 (.t 95)), oo 97 (.bin .add (.t 94) (.t 96)), oo 98 (.slice 1 (.t 88) (some (.t 91)) (some (.t 97)) none), oo 99 (.call false n_slices_Clone_Sbyte_byte [(.t 98)]), oo 100 (.call false n_slices_Clip_Sbyte_byte [(.t 99)]), oo 101 (.fieldA 3 (.t 10)), ow (.store 1 (.t 101) (.t 100))]
def r_pb_field_23 := rg r_pb_field_23_o [4, 8, 10, 12]
@[go_sem] theorem r_pb_field_23_u : Gr X K s r_pb_field_23 r_pb_field_23_o [4, 8, 10, 12] := go_region _ _
@[go_sem] def r_pb_field_24_o : Ops := [
oo 102 (.load (some 5) (.t 10)), oo 103 (.mv (.t 8)), oo 104 (.mv (.t 12)), oo 105 (.cvInt .i64 (.t 104)), oo 106 (.bin .add (.t 103) (.t 105)), ow (.store 5 (.t 4) (.t 102)), oo 5 (.asg (.t 106)), oo 6 (.asg (ci 0))]
def r_pb_field_24 := rg r_pb_field_24_o [4, 5, 6]
@[go_sem] theorem r_pb_field_24_u : Gr X K s r_pb_field_24 r_pb_field_24_o [4, 5, 6] := go_region _ _
@[go_sem] def r_pb_field_25_o : Ops := [
oo 107 (.mv (.t 11)), oo 108 (.bin .add (.t 107) (ci 4)), oo 11 (.asg (.t 108))]
def r_pb_field_25 := rg r_pb_field_25_o [0, 1, 4, 8, 10, 11]
@[go_sem] theorem r_pb_field_25_u : Gr X K s r_pb_field_25 r_pb_field_25_o [0, 1, 4, 8, 10, 11] := go_region _ _
@[go_sem] def r_pb_field_26_o : Ops := [
oo 109 (.mv (.t 11)), oo 110 (.bin .add (.t 109) (ci 4)), oo 11 (.asg (.t 110))]
def r_pb_field_26 := rg r_pb_field_26_o [0, 1, 4, 8, 10, 11]
@[go_sem] theorem r_pb_field_26_u : Gr X K s r_pb_field_26 r_pb_field_26_o [0, 1, 4, 8, 10, 11] := go_region _ _
@[go_sem] def r_pb_field_27_o : Ops := [
oo 111 (.build [(.int .i64 0), (.int .i64 0), (.int .u64 0), .nilS, (.int .i64 0)] []), ow (.store 5 (.t 4) (.t 111)), oo 5 (.asg (ci 0)), oo 6 (.asg (ci 2))]
def r_pb_field_27 := rg r_pb_field_27_o [4, 5, 6]
@[go_sem] theorem r_pb_field_27_u : Gr X K s r_pb_field_27 r_pb_field_27_o [4, 5, 6] := go_region _ _
@[go_sem] def r_pb_field_28_o : Ops := [
oo 112 (.mv (.t 11)), oo 113 (.mv (.t 0)), oo 114 (.len false (.t 113)), oo 115 (.mv (.t 1)), oo 116 (.bin .sub (.t 114) (.t 115)), oo 117 (.mv (.t 8)), oo 118 (.bin .sub (.t 116) (.t 117)), oo 119 (.bin .gtr (.t 112) (.t 118))]
def r_pb_field_28 := rg r_pb_field_28_o [0, 1, 4, 8, 10, 11, 119]
@[go_sem] theorem r_pb_field_28_u : Gr X K s r_pb_field_28 r_pb_field_28_o [0, 1, 4, 8, 10, 11, 119] := go_region _ _
@[go_sem] def r_pb_field_29_o : Ops := [
oo 120 (.build [(.int .i64 0), (.int .i64 0), (.int .u64 0), .nilS, (.int .i64 0)] []), ow (.store 5 (.t 4) (.t 120)), oo 5 (.asg (ci 0)), oo 6 (.asg (ci 3))]
def r_pb_field_29 := rg r_pb_field_29_o [4, 5, 6]
@[go_sem] theorem r_pb_field_29_u : Gr X K s r_pb_field_29 r_pb_field_29_o [4, 5, 6] := go_region _ _
@[go_sem] def r_pb_field_30_o : Ops := [
oo 121 (.mv (.t 0)), oo 122 (.mv (.t 1)), oo 123 (.mv (.t 8)), oo 124 (.bin .add (.t 122) (.t 123)), oo 125 (.mv (.t 1)), oo 126 (.mv (.t 8)), oo 127 (.bin .add (.t 125) (.t 126)), oo 128 (.mv (.t 11)), oo 129 (.bin .add (.t 127) (.t 128)), oo 130 (.slice 1 (.t 121) (some (.t 124)) (some (.t 129)) none), oo 131 (.len false (.t 130)), oo 132 (.mv (ci 0))]
def r_pb_field_30 := rg r_pb_field_30_o [4, 8, 10, 11, 130, 131, 132]
@[go_sem] theorem r_pb_field_30_u : Gr X K s r_pb_field_30 r_pb_field_30_o [4, 8, 10, 11, 130, 131, 132] := go_region _ _
@[go_sem] def r_pb_field_31_o : Ops := [
oo 133 (.bin .lss (.t 132) (.t 131))]
def r_pb_field_31 := rg r_pb_field_31_o [4, 8, 10, 11, 130, 131, 132, 133]
@[go_sem] theorem r_pb_field_31_u : Gr X K s r_pb_field_31 r_pb_field_31_o [4, 8, 10, 11, 130, 131, 132, 133] := go_region _ _
@[go_sem] def r_pb_field_32_o : Ops := [
oo 134 (.mv (.t 132)), oo 135 (.idxA 1 (.t 130) (.t 132)), oo 136 (.load none (.t 135)), oo 15 (.asg (.t 134)), oo 16 (.asg (.t 136))]
def r_pb_field_32 := rg r_pb_field_32_o [4, 8, 10, 11, 15, 16, 130, 131, 132]
@[go_sem] theorem r_pb_field_32_u : Gr X K s r_pb_field_32 r_pb_field_32_o [4, 8, 10, 11, 15, 16, 130, 131, 132] := go_region _ _
@[go_sem] def r_pb_field_33_o : Ops := [
oo 137 (.fieldA 2 (.t 10)), oo 138 (.load none (.t 137)), oo 139 (.mv (.t 16)), oo 140 (.cvInt .u64 (.t 139)), oo 141 (.mv (.t 15)), oo 142 (.bin .mul (ci 8) (.t 141)), oo 143 (.bin .shl (.t 140) (.t 142)), oo 144 (.bin .or (.t 138) (.t 143)), oo 145 (.fieldA 2 (.t 10)), ow (.store 1 (.t 145) (.t 144))]
def r_pb_field_33_n : List (Nat × Nat) := [(0, 2), (1, 2), (0, 3), (1, 3), (0, 4), (1, 4), (2, 4), (3, 4), (0, 5), (1, 5), (2, 5), (3, 5), (0, 6), (1, 6)]
def r_pb_field_33 : ICode := .region r_pb_field_33_o r_pb_field_33_n [4, 8, 10, 11, 130, 131, 132]
@[go_sem] theorem r_pb_field_33_u : go X (.c r_pb_field_33 :: K) s = goRU X [] r_pb_field_33_n r_pb_field_33_o [4, 8, 10, 11, 130, 131, 132] K s := go_regionU' _ _ _ _
@[go_sem] def r_pb_field_34_o : Ops := [
oo 146 (.bin .add (.t 132) (ci 1)), oo 132 (.mv (.t 146))]
def r_pb_field_34 := rg r_pb_field_34_o [4, 8, 10, 11, 130, 131, 132]
@[go_sem] theorem r_pb_field_34_u : Gr X K s r_pb_field_34 r_pb_field_34_o [4, 8, 10, 11, 130, 131, 132] := go_region _ _
def b_pb_field_35 : ICode := (.seq r_pb_field_31 (.seq (.cond (.t 133) .skip (.exit 5)) (.seq (.block 6 (.seq r_pb_field_32 r_pb_field_33)) r_pb_field_34)))
@[go_sem] theorem b_pb_field_35_u : Gn X K s b_pb_field_35 (.seq r_pb_field_31 (.seq (.cond (.t 133) .skip (.exit 5)) (.seq (.block 6 (.seq r_pb_field_32 r_pb_field_33)) r_pb_field_34))) := rfl
@[go_sem] def r_pb_field_36_o : Ops := [
oo 147 (.load (some 5) (.t 10)), oo 148 (.mv (.t 8)), oo 149 (.mv (.t 11)), oo 150 (.bin .add (.t 148) (.t 149)), ow (.store 5 (.t 4) (.t 147)), oo 5 (.asg (.t 150)), oo 6 (.asg (ci 0))]
def r_pb_field_36 := rg r_pb_field_36_o [4, 5, 6]
@[go_sem] theorem r_pb_field_36_u : Gr X K s r_pb_field_36 r_pb_field_36_o [4, 5, 6] := go_region _ _
def c_pb_field : ICode := (.seq r_pb_field_0 (.seq r_pb_field_1 (.seq r_pb_field_2 (.cond (.t 25) (.seq r_pb_field_3 .ret) (.seq r_pb_field_4 (.seq r_pb_field_5 (.cond (.t 40) (.seq r_pb_field_6 .ret) (.seq r_pb_field_7 (.seq r_pb_field_8 (.seq (.seq r_pb_field_9 (.block 0 (.seq (.block 4 (.seq (.block 3 (.seq (.block 2 (.seq (.block 1 (.seq (.seq (.seq (.seq r_pb_field_10 (.cond (.t 48) .skip r_pb_field_11)) (.cond (.t 48) (.exit 1) .skip)) (.seq (.seq r_pb_field_12 (.cond (.t 51) (.exit 2) .skip)) (.seq r_pb_field_13 (.cond (.t 53) (.exit 3) .skip)))) (.exit 4))) (.seq (.seq r_pb_field_14 (.seq (.seq r_pb_field_15 (.cond (.t 65) (.seq r_pb_field_16 .ret) .skip)) (.seq r_pb_field_17 (.seq (.seq r_pb_field_18 (.cond (.t 73) (.seq r_pb_field_19 (.seq r_pb_field_20 .ret)) .skip)) (.seq (.seq r_pb_field_21 (.cond (.t 86) (.seq r_pb_field_22 .ret) .skip)) (.seq r_pb_field_23 (.seq r_pb_field_24 .ret))))))) (.exit 0)))) r_pb_field_25)) (.seq r_pb_field_26 (.exit 0)))) (.seq (.seq r_pb_field_27 .ret) (.exit 0))))) (.seq r_pb_field_28 (.cond (.t 119) (.seq r_pb_field_29 .ret) (.seq (.seq r_pb_field_30 (.block 5 (.loop b_pb_field_35))) (.seq r_pb_field_36 .ret))))))))))))))
def i_pb_field : IFunc := ⟨2, [.cell 4 (some 5), .t 5, .t 6], c_pb_field⟩
def a_pb_field : Advice := ⟨[], [(35, [4, 5, 6]), (34, [4, 8, 10, 11, 130, 131, 132]), (33, [4, 8, 10, 11, 130, 131, 132]), (32, [4, 8, 10, 11, 15, 16, 130, 131, 132]), (31, [4, 8, 10, 11, 130, 131, 132, 133]), (30, [4, 8, 10, 11, 130, 131, 132]), (29, [4, 5, 6]), (28, [0, 1, 4, 8, 10, 11, 119]), (27, [4, 5, 6]), (26, [0, 1, 4, 8, 10, 11]), (25, [0, 1, 4, 8, 10, 11]), (24, [4, 5, 6]), (23, [4, 8, 10, 12]), (22, [4, 5, 6]), (21, [0, 1, 4, 8, 10, 12, 86]), (20, [4, 5, 6]), (19, [4, 8, 10]), (18, [0, 1, 4, 8, 10, 12, 73]), (17, [0, 1, 4, 8, 10, 12]), (16, [4, 5, 6]), (15, [0, 1, 4, 8, 10, 12, 13, 14, 65]), (14, [0, 1, 4, 8, 10, 12, 13, 14]), (13, [0, 1, 4, 8, 10, 11, 53]), (12, [0, 1, 4, 8, 10, 11, 47, 51]), (11, [0, 1, 4, 8, 10, 11, 47, 48]), (10, [0, 1, 4, 8, 10, 11, 47, 48]), (9, [0, 1, 4, 8, 10, 11, 47]), (8, [0, 1, 4, 8, 10, 11]), (7, [0, 1, 4, 8, 10]), (6, [4, 5, 6]), (5, [0, 1, 4, 7, 8, 10, 40]), (4, [0, 1, 4, 7, 8, 10]), (3, [4, 5, 6]), (2, [0, 1, 4, 7, 8, 9, 25]), (1, [0, 1, 4, 7, 8, 9]), (0, [0, 1, 4])], [], [], [], []⟩
/-! ingot/pb.Parse -/
@[go_sem] def r_pb_Parse_0_o : Ops := [
oo 2 (.asg (.c .nilS)), oo 3 (.asg (ci 0))]
def r_pb_Parse_0 := rg r_pb_Parse_0_o [0]
@[go_sem] theorem r_pb_Parse_0_u : Gr X K s r_pb_Parse_0 r_pb_Parse_0_o [0] := go_region _ _
@[go_sem] def r_pb_Parse_1_o : Ops := [
oo 9 (.mv (.t 0)), oo 10 (.len false (.t 9)), oo 11 (.bin .gtr (.t 10) (ci 262144))]
def r_pb_Parse_1 := rg r_pb_Parse_1_o [0, 11]
@[go_sem] theorem r_pb_Parse_1_u : Gr X K s r_pb_Parse_1 r_pb_Parse_1_o [0, 11] := go_region _ _
@[go_sem] def r_pb_Parse_2_o : Ops := [
oo 2 (.asg (.c .nilS)), oo 3 (.asg (ci 4))]
def r_pb_Parse_2 := rg r_pb_Parse_2_o [2, 3]
@[go_sem] theorem r_pb_Parse_2_u : Gr X K s r_pb_Parse_2 r_pb_Parse_2_o [2, 3] := go_region _ _
@[go_sem] def r_pb_Parse_3_o : Ops := [
oo 4 (.asg (.c .nilS))]
def r_pb_Parse_3 := rg r_pb_Parse_3_o [0, 4]
@[go_sem] theorem r_pb_Parse_3_u : Gr X K s r_pb_Parse_3 r_pb_Parse_3_o [0, 4] := go_region _ _
@[go_sem] def r_pb_Parse_4_o : Ops := [
oo 5 (.asg (ci 0))]
def r_pb_Parse_4 := rg r_pb_Parse_4_o [0, 4, 5]
@[go_sem] theorem r_pb_Parse_4_u : Gr X K s r_pb_Parse_4 r_pb_Parse_4_o [0, 4, 5] := go_region _ _
@[go_sem] def r_pb_Parse_5_o : Ops := [
oo 12 (.mv (.t 5)), oo 13 (.mv (.t 0)), oo 14 (.len false (.t 13)), oo 15 (.bin .lss (.t 12) (.t 14))]
def r_pb_Parse_5 := rg r_pb_Parse_5_o [0, 4, 5, 15]
@[go_sem] theorem r_pb_Parse_5_u : Gr X K s r_pb_Parse_5 r_pb_Parse_5_o [0, 4, 5, 15] := go_region _ _
@[go_sem] def r_pb_Parse_6_o : Ops := [
oo 16 (.mv (.t 4)), oo 17 (.len false (.t 16)), oo 18 (.bin .geq (.t 17) (ci 4096))]
def r_pb_Parse_6 := rg r_pb_Parse_6_o [0, 4, 5, 18]
@[go_sem] theorem r_pb_Parse_6_u : Gr X K s r_pb_Parse_6 r_pb_Parse_6_o [0, 4, 5, 18] := go_region _ _
@[go_sem] def r_pb_Parse_7_o : Ops := [
oo 2 (.asg (.c .nilS)), oo 3 (.asg (ci 4))]
def r_pb_Parse_7 := rg r_pb_Parse_7_o [2, 3]
@[go_sem] theorem r_pb_Parse_7_u : Gr X K s r_pb_Parse_7 r_pb_Parse_7_o [2, 3] := go_region _ _
@[go_sem] def r_pb_Parse_8_o : Ops := [
oo 20 (.mv (.t 0)), oo 21 (.mv (.t 5)), oo 22 (.call false n_pb_field [(.t 20), (.t 21)]), oo 19 (.mv (.t 22)), oo 23 (.ext (.t 19) 0), oo 24 (.ext (.t 19) 1), oo 25 (.ext (.t 19) 2), oo 6 (.alloc [(.int .i64 0), (.int .i64 0), (.int .u64 0), .nilS, (.int .i64 0)]), ow (.store 5 (.t 6) (.t 23)), oo 7 (.asg (.t 24)), oo 8 (.asg (.t 25))]
def r_pb_Parse_8 := rg r_pb_Parse_8_o [0, 4, 5, 6, 7, 8]
@[go_sem] theorem r_pb_Parse_8_u : Gr X K s r_pb_Parse_8 r_pb_Parse_8_o [0, 4, 5, 6, 7, 8] := go_region _ _
@[go_sem] def r_pb_Parse_9_o : Ops := [
oo 26 (.mv (.t 8)), oo 27 (.bin .neq (.t 26) (ci 0))]
def r_pb_Parse_9 := rg r_pb_Parse_9_o [0, 4, 5, 6, 7, 8, 27]
@[go_sem] theorem r_pb_Parse_9_u : Gr X K s r_pb_Parse_9 r_pb_Parse_9_o [0, 4, 5, 6, 7, 8, 27] := go_region _ _
@[go_sem] def r_pb_Parse_10_o : Ops := [
oo 28 (.mv (.t 8)), oo 2 (.asg (.c .nilS)), oo 3 (.asg (.t 28))]
def r_pb_Parse_10 := rg r_pb_Parse_10_o [2, 3]
@[go_sem] theorem r_pb_Parse_10_u : Gr X K s r_pb_Parse_10 r_pb_Parse_10_o [2, 3] := go_region _ _
@[go_sem] def r_pb_Parse_11_o : Ops := [
oo 29 (.mv (.t 4)), oo 30 (.load (some 5) (.t 6)), oo 31 (.lit false 5 1 (.agg [(.int .i64 0), (.int .i64 0), (.int .u64 0), (.sl []), (.int .i64 0)]) [(0, (.t 30))]), oo 32 (.append 5 56 (.t 29) (.t 31)), oo 4 (.asg (.t 32))]
def r_pb_Parse_11 := rg r_pb_Parse_11_o [0, 4, 5, 7]
@[go_sem] theorem r_pb_Parse_11_u : Gr X K s r_pb_Parse_11 r_pb_Parse_11_o [0, 4, 5, 7] := go_region _ _
@[go_sem] def r_pb_Parse_12_o : Ops := [
oo 33 (.mv (.t 5)), oo 34 (.mv (.t 7)), oo 35 (.bin .add (.t 33) (.t 34)), oo 5 (.asg (.t 35))]
def r_pb_Parse_12 := rg r_pb_Parse_12_o [0, 4, 5]
@[go_sem] theorem r_pb_Parse_12_u : Gr X K s r_pb_Parse_12 r_pb_Parse_12_o [0, 4, 5] := go_region _ _
def b_pb_Parse_13 : ICode := (.seq (.seq r_pb_Parse_5 (.cond (.t 15) .skip (.exit 0))) (.block 1 (.seq (.seq r_pb_Parse_6 (.cond (.t 18) (.seq r_pb_Parse_7 .ret) .skip)) (.seq (.seq (.free 6) r_pb_Parse_8) (.seq (.seq r_pb_Parse_9 (.cond (.t 27) (.seq r_pb_Parse_10 .ret) .skip)) (.seq r_pb_Parse_11 r_pb_Parse_12))))))
@[go_sem] theorem b_pb_Parse_13_u : Gn X K s b_pb_Parse_13 (.seq (.seq r_pb_Parse_5 (.cond (.t 15) .skip (.exit 0))) (.block 1 (.seq (.seq r_pb_Parse_6 (.cond (.t 18) (.seq r_pb_Parse_7 .ret) .skip)) (.seq (.seq (.free 6) r_pb_Parse_8) (.seq (.seq r_pb_Parse_9 (.cond (.t 27) (.seq r_pb_Parse_10 .ret) .skip)) (.seq r_pb_Parse_11 r_pb_Parse_12)))))) := rfl
@[go_sem] def r_pb_Parse_14_o : Ops := [
oo 36 (.mv (.t 4)), oo 37 (.call false n_slices_Clip_Spb_Field_pb_Field [(.t 36)]), oo 2 (.asg (.t 37)), oo 3 (.asg (ci 0))]
def r_pb_Parse_14 := rg r_pb_Parse_14_o [2, 3]
@[go_sem] theorem r_pb_Parse_14_u : Gr X K s r_pb_Parse_14 r_pb_Parse_14_o [2, 3] := go_region _ _
def c_pb_Parse : ICode := (.seq r_pb_Parse_0 (.seq r_pb_Parse_1 (.cond (.t 11) (.seq r_pb_Parse_2 .ret) (.seq r_pb_Parse_3 (.seq (.seq r_pb_Parse_4 (.block 0 (.loop b_pb_Parse_13))) (.seq r_pb_Parse_14 .ret))))))
def i_pb_Parse : IFunc := ⟨1, [.t 2, .t 3], c_pb_Parse⟩
def a_pb_Parse : Advice := ⟨[32], [(13, [2, 3]), (12, [0, 4, 5]), (11, [0, 4, 5, 7]), (10, [2, 3]), (9, [0, 4, 5, 6, 7, 8, 27]), (8, [0, 4, 5, 6, 7, 8]), (7, [2, 3]), (6, [0, 4, 5, 18]), (5, [0, 4, 5, 15]), (4, [0, 4, 5]), (3, [0, 4]), (2, [2, 3]), (1, [0, 11]), (0, [0])], [], [(8, [6])], [], []⟩
/-! ingot/foot.Decode -/
@[go_sem] def r_foot_Decode_0_o : Ops := [
oo 2 (.alloc [(.int .i64 0), .nilS, (.int .i64 0), .nilS, .nilS, (.int .i64 0), (.int .i64 0), (.int .i64 0), .nilS, (.int .i64 0), .nilS, (.int .i64 0)]), oo 3 (.asg (ci 0))]
def r_foot_Decode_0 := rg r_foot_Decode_0_o [0, 2]
@[go_sem] theorem r_foot_Decode_0_u : Gr X K s r_foot_Decode_0 r_foot_Decode_0_o [0, 2] := go_region _ _
@[go_sem] def r_foot_Decode_1_o : Ops := [
oo 11 (.mv (.t 0)), oo 12 (.call false n_pb_Parse [(.t 11)]), oo 10 (.mv (.t 12)), oo 13 (.ext (.t 10) 0), oo 14 (.ext (.t 10) 1), oo 4 (.asg (.t 13)), oo 5 (.asg (.t 14))]
def r_foot_Decode_1 := rg r_foot_Decode_1_o [2, 4, 5]
@[go_sem] theorem r_foot_Decode_1_u : Gr X K s r_foot_Decode_1 r_foot_Decode_1_o [2, 4, 5] := go_region _ _
@[go_sem] def r_foot_Decode_2_o : Ops := [
oo 15 (.mv (.t 5)), oo 16 (.bin .neq (.t 15) (ci 0))]
def r_foot_Decode_2 := rg r_foot_Decode_2_o [2, 4, 5, 16]
@[go_sem] theorem r_foot_Decode_2_u : Gr X K s r_foot_Decode_2 r_foot_Decode_2_o [2, 4, 5, 16] := go_region _ _
@[go_sem] def r_foot_Decode_3_o : Ops := [
oo 17 (.build [(.int .i64 0), .nilS, (.int .i64 0), .nilS, .nilS, (.int .i64 0), (.int .i64 0), (.int .i64 0), .nilS, (.int .i64 0), .nilS, (.int .i64 0)] []), oo 18 (.mv (.t 5)), ow (.store 12 (.t 2) (.t 17)), oo 3 (.asg (.t 18))]
def r_foot_Decode_3 := rg r_foot_Decode_3_o [2, 3]
@[go_sem] theorem r_foot_Decode_3_u : Gr X K s r_foot_Decode_3 r_foot_Decode_3_o [2, 3] := go_region _ _
@[go_sem] def r_foot_Decode_4_o : Ops := [
oo 20 (.mv (.t 4)), oo 21 (.call false n_foot_split [(.t 20)]), oo 19 (.mv (.t 21)), oo 22 (.ext (.t 19) 0), oo 23 (.ext (.t 19) 1), oo 6 (.alloc [.nilS, .nilS, .nilS, .nilS, .nilS, .nilS, .nilS, .nilS, .nilS]), ow (.store 9 (.t 6) (.t 22)), oo 5 (.asg (.t 23))]
def r_foot_Decode_4 := rg r_foot_Decode_4_o [2, 4, 5, 6]
@[go_sem] theorem r_foot_Decode_4_u : Gr X K s r_foot_Decode_4 r_foot_Decode_4_o [2, 4, 5, 6] := go_region _ _
@[go_sem] def r_foot_Decode_5_o : Ops := [
oo 24 (.mv (.t 5)), oo 25 (.bin .neq (.t 24) (ci 0))]
def r_foot_Decode_5 := rg r_foot_Decode_5_o [2, 4, 5, 6, 25]
@[go_sem] theorem r_foot_Decode_5_u : Gr X K s r_foot_Decode_5 r_foot_Decode_5_o [2, 4, 5, 6, 25] := go_region _ _
@[go_sem] def r_foot_Decode_6_o : Ops := [
oo 26 (.build [(.int .i64 0), .nilS, (.int .i64 0), .nilS, .nilS, (.int .i64 0), (.int .i64 0), (.int .i64 0), .nilS, (.int .i64 0), .nilS, (.int .i64 0)] []), oo 27 (.mv (.t 5)), ow (.store 12 (.t 2) (.t 26)), oo 3 (.asg (.t 27))]
def r_foot_Decode_6 := rg r_foot_Decode_6_o [2, 3]
@[go_sem] theorem r_foot_Decode_6_u : Gr X K s r_foot_Decode_6 r_foot_Decode_6_o [2, 3] := go_region _ _
@[go_sem] def r_foot_Decode_7_o : Ops := [
oo 7 (.alloc [(.int .i64 0), .nilS, (.int .i64 0), .nilS, .nilS, (.int .i64 0), (.int .i64 0), (.int .i64 0), .nilS, (.int .i64 0), .nilS, (.int .i64 0)])]
def r_foot_Decode_7 := rg r_foot_Decode_7_o [2, 4, 6, 7]
@[go_sem] theorem r_foot_Decode_7_u : Gr X K s r_foot_Decode_7 r_foot_Decode_7_o [2, 4, 6, 7] := go_region _ _
@[go_sem] def r_foot_Decode_8_o : Ops := [
oo 8 (.asg (.c (.bool false))), oo 9 (.asg (.c (.bool false)))]
def r_foot_Decode_8 := rg r_foot_Decode_8_o [2, 4, 6, 7]
@[go_sem] theorem r_foot_Decode_8_u : Gr X K s r_foot_Decode_8 r_foot_Decode_8_o [2, 4, 6, 7] := go_region _ _
@[go_sem] def r_foot_Decode_9_o : Ops := [
oo 29 (.mv (.t 4)), oo 30 (.call false n_foot_number [(.t 29), (ci 2)]), oo 28 (.mv (.t 30)), oo 31 (.ext (.t 28) 0), oo 32 (.ext (.t 28) 1), oo 33 (.fieldA 0 (.t 7)), ow (.store 1 (.t 33) (.t 31)), oo 8 (.asg (.t 32))]
def r_foot_Decode_9 := rg r_foot_Decode_9_o [2, 4, 6, 7, 8]
@[go_sem] theorem r_foot_Decode_9_u : Gr X K s r_foot_Decode_9 r_foot_Decode_9_o [2, 4, 6, 7, 8] := go_region _ _
@[go_sem] def r_foot_Decode_10_o : Ops := [
oo 34 (.mv (.t 8)), oo 35 (.un .not (.t 34))]
def r_foot_Decode_10 := rg r_foot_Decode_10_o [2, 4, 6, 7, 35]
@[go_sem] theorem r_foot_Decode_10_u : Gr X K s r_foot_Decode_10 r_foot_Decode_10_o [2, 4, 6, 7, 35] := go_region _ _
@[go_sem] def r_foot_Decode_11_o : Ops := [
oo 36 (.build [(.int .i64 0), .nilS, (.int .i64 0), .nilS, .nilS, (.int .i64 0), (.int .i64 0), (.int .i64 0), .nilS, (.int .i64 0), .nilS, (.int .i64 0)] []), ow (.store 12 (.t 2) (.t 36)), oo 3 (.asg (ci 2))]
def r_foot_Decode_11 := rg r_foot_Decode_11_o [2, 3]
@[go_sem] theorem r_foot_Decode_11_u : Gr X K s r_foot_Decode_11 r_foot_Decode_11_o [2, 3] := go_region _ _
@[go_sem] def r_foot_Decode_12_o : Ops := [
oo 38 (.load (some 9) (.t 6)), oo 39 (.call false n_foot_parts_stripes [(.t 38)]), oo 37 (.mv (.t 39)), oo 40 (.ext (.t 37) 0), oo 41 (.ext (.t 37) 1), oo 42 (.fieldA 1 (.t 7)), ow (.store 1 (.t 42) (.t 40)), oo 8 (.asg (.t 41))]
def r_foot_Decode_12 := rg r_foot_Decode_12_o [2, 4, 6, 7, 8]
@[go_sem] theorem r_foot_Decode_12_u : Gr X K s r_foot_Decode_12 r_foot_Decode_12_o [2, 4, 6, 7, 8] := go_region _ _
@[go_sem] def r_foot_Decode_13_o : Ops := [
oo 43 (.mv (.t 8)), oo 44 (.un .not (.t 43))]
def r_foot_Decode_13 := rg r_foot_Decode_13_o [2, 4, 6, 7, 44]
@[go_sem] theorem r_foot_Decode_13_u : Gr X K s r_foot_Decode_13 r_foot_Decode_13_o [2, 4, 6, 7, 44] := go_region _ _
@[go_sem] def r_foot_Decode_14_o : Ops := [
oo 45 (.build [(.int .i64 0), .nilS, (.int .i64 0), .nilS, .nilS, (.int .i64 0), (.int .i64 0), (.int .i64 0), .nilS, (.int .i64 0), .nilS, (.int .i64 0)] []), ow (.store 12 (.t 2) (.t 45)), oo 3 (.asg (ci 2))]
def r_foot_Decode_14 := rg r_foot_Decode_14_o [2, 3]
@[go_sem] theorem r_foot_Decode_14_u : Gr X K s r_foot_Decode_14 r_foot_Decode_14_o [2, 3] := go_region _ _
@[go_sem] def r_foot_Decode_15_o : Ops := [
oo 47 (.load (some 9) (.t 6)), oo 48 (.call false n_foot_parts_tree [(.t 47)]), oo 46 (.mv (.t 48)), oo 49 (.ext (.t 46) 0), oo 50 (.ext (.t 46) 1), oo 51 (.fieldA 2 (.t 7)), ow (.store 6 (.t 51) (.t 49)), oo 5 (.asg (.t 50))]
def r_foot_Decode_15 := rg r_foot_Decode_15_o [2, 4, 5, 6, 7]
@[go_sem] theorem r_foot_Decode_15_u : Gr X K s r_foot_Decode_15 r_foot_Decode_15_o [2, 4, 5, 6, 7] := go_region _ _
@[go_sem] def r_foot_Decode_16_o : Ops := [
oo 52 (.mv (.t 5)), oo 53 (.bin .neq (.t 52) (ci 0))]
def r_foot_Decode_16 := rg r_foot_Decode_16_o [2, 4, 5, 6, 7, 53]
@[go_sem] theorem r_foot_Decode_16_u : Gr X K s r_foot_Decode_16 r_foot_Decode_16_o [2, 4, 5, 6, 7, 53] := go_region _ _
@[go_sem] def r_foot_Decode_17_o : Ops := [
oo 54 (.build [(.int .i64 0), .nilS, (.int .i64 0), .nilS, .nilS, (.int .i64 0), (.int .i64 0), (.int .i64 0), .nilS, (.int .i64 0), .nilS, (.int .i64 0)] []), oo 55 (.mv (.t 5)), ow (.store 12 (.t 2) (.t 54)), oo 3 (.asg (.t 55))]
def r_foot_Decode_17 := rg r_foot_Decode_17_o [2, 3]
@[go_sem] theorem r_foot_Decode_17_u : Gr X K s r_foot_Decode_17 r_foot_Decode_17_o [2, 3] := go_region _ _
@[go_sem] def r_foot_Decode_18_o : Ops := [
oo 57 (.load (some 9) (.t 6)), oo 58 (.call false n_foot_parts_pairs [(.t 57)]), oo 56 (.mv (.t 58)), oo 59 (.ext (.t 56) 0), oo 60 (.ext (.t 56) 1), oo 61 (.fieldA 8 (.t 7)), ow (.store 1 (.t 61) (.t 59)), oo 8 (.asg (.t 60))]
def r_foot_Decode_18 := rg r_foot_Decode_18_o [2, 4, 6, 7, 8]
@[go_sem] theorem r_foot_Decode_18_u : Gr X K s r_foot_Decode_18 r_foot_Decode_18_o [2, 4, 6, 7, 8] := go_region _ _
@[go_sem] def r_foot_Decode_19_o : Ops := [
oo 63 (.mv (.t 4)), oo 64 (.call false n_foot_number [(.t 63), (ci 6)]), oo 62 (.mv (.t 64)), oo 65 (.ext (.t 62) 0), oo 66 (.ext (.t 62) 1), oo 67 (.fieldA 9 (.t 7)), ow (.store 1 (.t 67) (.t 65)), oo 9 (.asg (.t 66))]
def r_foot_Decode_19 := rg r_foot_Decode_19_o [2, 4, 6, 7, 8, 9]
@[go_sem] theorem r_foot_Decode_19_u : Gr X K s r_foot_Decode_19 r_foot_Decode_19_o [2, 4, 6, 7, 8, 9] := go_region _ _
@[go_sem] def r_foot_Decode_20_o : Ops := [
oo 68 (.mv (.t 8)), oo 69 (.un .not (.t 68)), oo 70 (.mv (.t 69)), og 71 70 false (.mv (.t 9)), og 72 70 false (.un .not (.t 71)), oo 73 (.pick (.t 70) (.c (.bool true)) (.t 72))]
def r_foot_Decode_20 := rg r_foot_Decode_20_o [2, 4, 6, 7, 73]
@[go_sem] theorem r_foot_Decode_20_u : Gr X K s r_foot_Decode_20 r_foot_Decode_20_o [2, 4, 6, 7, 73] := go_region _ _
@[go_sem] def r_foot_Decode_21_o : Ops := [
oo 74 (.build [(.int .i64 0), .nilS, (.int .i64 0), .nilS, .nilS, (.int .i64 0), (.int .i64 0), (.int .i64 0), .nilS, (.int .i64 0), .nilS, (.int .i64 0)] []), ow (.store 12 (.t 2) (.t 74)), oo 3 (.asg (ci 2))]
def r_foot_Decode_21 := rg r_foot_Decode_21_o [2, 3]
@[go_sem] theorem r_foot_Decode_21_u : Gr X K s r_foot_Decode_21 r_foot_Decode_21_o [2, 3] := go_region _ _
@[go_sem] def r_foot_Decode_22_o : Ops := [
oo 76 (.load (some 9) (.t 6)), oo 77 (.fieldA 2 (.t 7)), oo 78 (.load (some 6) (.t 77)), oo 79 (.call false n_types_Flatten [(.t 78)]), oo 80 (.call false n_foot_parts_known [(.t 76), (.t 79)]), oo 75 (.mv (.t 80)), oo 81 (.ext (.t 75) 0), oo 82 (.ext (.t 75) 1), oo 83 (.fieldA 10 (.t 7)), ow (.store 1 (.t 83) (.t 81)), oo 5 (.asg (.t 82))]
def r_foot_Decode_22_n : List (Nat × Nat) := [(0, 1), (0, 2), (0, 3), (6, 7), (7, 8), (7, 9)]
def r_foot_Decode_22 : ICode := .region r_foot_Decode_22_o r_foot_Decode_22_n [2, 4, 5, 7]
@[go_sem] theorem r_foot_Decode_22_u : go X (.c r_foot_Decode_22 :: K) s = goRU X [] r_foot_Decode_22_n r_foot_Decode_22_o [2, 4, 5, 7] K s := go_regionU' _ _ _ _
@[go_sem] def r_foot_Decode_23_o : Ops := [
oo 84 (.mv (.t 5)), oo 85 (.bin .neq (.t 84) (ci 0))]
def r_foot_Decode_23 := rg r_foot_Decode_23_o [2, 4, 5, 7, 85]
@[go_sem] theorem r_foot_Decode_23_u : Gr X K s r_foot_Decode_23 r_foot_Decode_23_o [2, 4, 5, 7, 85] := go_region _ _
@[go_sem] def r_foot_Decode_24_o : Ops := [
oo 86 (.build [(.int .i64 0), .nilS, (.int .i64 0), .nilS, .nilS, (.int .i64 0), (.int .i64 0), (.int .i64 0), .nilS, (.int .i64 0), .nilS, (.int .i64 0)] []), oo 87 (.mv (.t 5)), ow (.store 12 (.t 2) (.t 86)), oo 3 (.asg (.t 87))]
def r_foot_Decode_24 := rg r_foot_Decode_24_o [2, 3]
@[go_sem] theorem r_foot_Decode_24_u : Gr X K s r_foot_Decode_24 r_foot_Decode_24_o [2, 3] := go_region _ _
@[go_sem] def r_foot_Decode_25_o : Ops := [
oo 89 (.mv (.t 4)), oo 90 (.call false n_foot_number [(.t 89), (ci 8)]), oo 88 (.mv (.t 90)), oo 91 (.ext (.t 88) 0), oo 92 (.ext (.t 88) 1), oo 93 (.fieldA 11 (.t 7)), ow (.store 1 (.t 93) (.t 91)), oo 8 (.asg (.t 92))]
def r_foot_Decode_25 := rg r_foot_Decode_25_o [2, 7, 8]
@[go_sem] theorem r_foot_Decode_25_u : Gr X K s r_foot_Decode_25 r_foot_Decode_25_o [2, 7, 8] := go_region _ _
@[go_sem] def r_foot_Decode_26_o : Ops := [
oo 94 (.mv (.t 8)), oo 95 (.un .not (.t 94))]
def r_foot_Decode_26 := rg r_foot_Decode_26_o [2, 7, 95]
@[go_sem] theorem r_foot_Decode_26_u : Gr X K s r_foot_Decode_26 r_foot_Decode_26_o [2, 7, 95] := go_region _ _
@[go_sem] def r_foot_Decode_27_o : Ops := [
oo 96 (.build [(.int .i64 0), .nilS, (.int .i64 0), .nilS, .nilS, (.int .i64 0), (.int .i64 0), (.int .i64 0), .nilS, (.int .i64 0), .nilS, (.int .i64 0)] []), ow (.store 12 (.t 2) (.t 96)), oo 3 (.asg (ci 2))]
def r_foot_Decode_27 := rg r_foot_Decode_27_o [2, 3]
@[go_sem] theorem r_foot_Decode_27_u : Gr X K s r_foot_Decode_27 r_foot_Decode_27_o [2, 3] := go_region _ _
@[go_sem] def r_foot_Decode_28_o : Ops := [
oo 97 (.load (some 12) (.t 7)), ow (.store 12 (.t 2) (.t 97)), oo 3 (.asg (ci 0))]
def r_foot_Decode_28 := rg r_foot_Decode_28_o [2, 3]
@[go_sem] theorem r_foot_Decode_28_u : Gr X K s r_foot_Decode_28 r_foot_Decode_28_o [2, 3] := go_region _ _
def c_foot_Decode : ICode := (.seq r_foot_Decode_0 (.seq r_foot_Decode_1 (.seq r_foot_Decode_2 (.cond (.t 16) (.seq r_foot_Decode_3 .ret) (.seq r_foot_Decode_4 (.seq r_foot_Decode_5 (.cond (.t 25) (.seq r_foot_Decode_6 .ret) (.seq r_foot_Decode_7 (.seq r_foot_Decode_8 (.seq (.seq r_foot_Decode_9 (.seq r_foot_Decode_10 (.cond (.t 35) (.seq r_foot_Decode_11 .ret) .skip))) (.seq (.seq r_foot_Decode_12 (.seq r_foot_Decode_13 (.cond (.t 44) (.seq r_foot_Decode_14 .ret) .skip))) (.seq (.seq r_foot_Decode_15 (.seq r_foot_Decode_16 (.cond (.t 53) (.seq r_foot_Decode_17 .ret) .skip))) (.seq r_foot_Decode_18 (.seq (.seq r_foot_Decode_19 (.seq r_foot_Decode_20 (.cond (.t 73) (.seq r_foot_Decode_21 .ret) .skip))) (.seq (.seq r_foot_Decode_22 (.seq r_foot_Decode_23 (.cond (.t 85) (.seq r_foot_Decode_24 .ret) .skip))) (.seq (.seq r_foot_Decode_25 (.seq r_foot_Decode_26 (.cond (.t 95) (.seq r_foot_Decode_27 .ret) .skip))) (.seq r_foot_Decode_28 .ret)))))))))))))))))
def i_foot_Decode : IFunc := ⟨1, [.cell 2 (some 12), .t 3], c_foot_Decode⟩
def a_foot_Decode : Advice := ⟨[], [(28, [2, 3]), (27, [2, 3]), (26, [2, 7, 95]), (25, [2, 7, 8]), (24, [2, 3]), (23, [2, 4, 5, 7, 85]), (22, [2, 4, 5, 7]), (21, [2, 3]), (20, [2, 4, 6, 7, 73]), (19, [2, 4, 6, 7, 8, 9]), (18, [2, 4, 6, 7, 8]), (17, [2, 3]), (16, [2, 4, 5, 6, 7, 53]), (15, [2, 4, 5, 6, 7]), (14, [2, 3]), (13, [2, 4, 6, 7, 44]), (12, [2, 4, 6, 7, 8]), (11, [2, 3]), (10, [2, 4, 6, 7, 35]), (9, [2, 4, 6, 7, 8]), (8, [2, 4, 6, 7]), (7, [2, 4, 6, 7]), (6, [2, 3]), (5, [2, 4, 5, 6, 25]), (4, [2, 4, 5, 6]), (3, [2, 3]), (2, [2, 4, 5, 16]), (1, [2, 4, 5]), (0, [0, 2])], [], [], [], []⟩
/-! ingot/nums.Zig -/
@[go_sem] def r_nums_Zig_0_o : Ops := [
oo 2 (.asg (.c (.int .u64 0)))]
def r_nums_Zig_0 := rg r_nums_Zig_0_o [0]
@[go_sem] theorem r_nums_Zig_0_u : Gr X K s r_nums_Zig_0 r_nums_Zig_0_o [0] := go_region _ _
@[go_sem] def r_nums_Zig_1_o : Ops := [
oo 3 (.mv (.t 0)), oo 4 (.cvInt .u64 (.t 3)), oo 5 (.bin .shl (.t 4) (.c (.int .u64 1))), oo 6 (.mv (.t 0)), oo 7 (.bin .shr (.t 6) (.c (.int .u64 63))), oo 8 (.cvInt .u64 (.t 7)), oo 9 (.bin .xor (.t 5) (.t 8)), oo 2 (.asg (.t 9))]
def r_nums_Zig_1 := rg r_nums_Zig_1_o [2]
@[go_sem] theorem r_nums_Zig_1_u : Gr X K s r_nums_Zig_1 r_nums_Zig_1_o [2] := go_region _ _
def c_nums_Zig : ICode := (.seq r_nums_Zig_0 (.seq r_nums_Zig_1 .ret))
def i_nums_Zig : IFunc := ⟨1, [.t 2], c_nums_Zig⟩
def a_nums_Zig : Advice := ⟨[], [(1, [2]), (0, [0])], [], [], [], []⟩
/-! ingot/foot.PutTypes -/
@[go_sem] def r_foot_PutTypes_0_o : Ops := [
oo 3 (.box 6 (.t 1)), oo 4 (.asg (.c .nilS))]
def r_foot_PutTypes_0 := rg r_foot_PutTypes_0_o [0, 3]
@[go_sem] theorem r_foot_PutTypes_0_u : Gr X K s r_foot_PutTypes_0 r_foot_PutTypes_0_o [0, 3] := go_region _ _
@[go_sem] def r_foot_PutTypes_1_o : Ops := [
oo 16 (.mv (.t 0)), oo 17 (.call false n_slices_Clone_Sbyte_byte [(.t 16)]), oo 5 (.asg (.t 17))]
def r_foot_PutTypes_1 := rg r_foot_PutTypes_1_o [3, 5]
@[go_sem] theorem r_foot_PutTypes_1_u : Gr X K s r_foot_PutTypes_1 r_foot_PutTypes_1_o [3, 5] := go_region _ _
@[go_sem] def r_foot_PutTypes_2_o : Ops := [
oo 18 (.load (some 6) (.t 3)), oo 19 (.call false n_types_Flatten [(.t 18)]), oo 20 (.len false (.t 19)), oo 21 (.mv (ci 0))]
def r_foot_PutTypes_2 := rg r_foot_PutTypes_2_o [5, 19, 20, 21]
@[go_sem] theorem r_foot_PutTypes_2_u : Gr X K s r_foot_PutTypes_2 r_foot_PutTypes_2_o [5, 19, 20, 21] := go_region _ _
@[go_sem] def r_foot_PutTypes_3_o : Ops := [
oo 22 (.bin .lss (.t 21) (.t 20))]
def r_foot_PutTypes_3 := rg r_foot_PutTypes_3_o [5, 19, 20, 21, 22]
@[go_sem] theorem r_foot_PutTypes_3_u : Gr X K s r_foot_PutTypes_3 r_foot_PutTypes_3_o [5, 19, 20, 21, 22] := go_region _ _
@[go_sem] def r_foot_PutTypes_4_o : Ops := [
oo 23 (.idxA 8 (.t 19) (.t 21)), oo 24 (.load (some 8) (.t 23)), oo 7 (.alloc [(.int .i64 0), .nilS, .nilS, (.int .i64 0), (.int .i64 0), (.int .i64 0), (.int .i64 0), (.int .i64 0)]), ow (.store 8 (.t 7) (.t 24))]
def r_foot_PutTypes_4 := rg r_foot_PutTypes_4_o [5, 7, 19, 20, 21]
@[go_sem] theorem r_foot_PutTypes_4_u : Gr X K s r_foot_PutTypes_4 r_foot_PutTypes_4_o [5, 7, 19, 20, 21] := go_region _ _
@[go_sem] def r_foot_PutTypes_5_o : Ops := [
oo 25 (.fieldA 0 (.t 7)), oo 26 (.load none (.t 25)), oo 27 (.cvInt .u64 (.t 26)), oo 28 (.call false n_pb_PutUint [(.c .nilS), (ci 1), (.t 27)]), oo 8 (.asg (.t 28))]
def r_foot_PutTypes_5 := rg r_foot_PutTypes_5_o [5, 7, 8, 19, 20, 21]
@[go_sem] theorem r_foot_PutTypes_5_u : Gr X K s r_foot_PutTypes_5 r_foot_PutTypes_5_o [5, 7, 8, 19, 20, 21] := go_region _ _
@[go_sem] def r_foot_PutTypes_6_o : Ops := [
oo 9 (.asg (.c .nilS))]
def r_foot_PutTypes_6 := rg r_foot_PutTypes_6_o [5, 7, 8, 9, 19, 20, 21]
@[go_sem] theorem r_foot_PutTypes_6_u : Gr X K s r_foot_PutTypes_6 r_foot_PutTypes_6_o [5, 7, 8, 9, 19, 20, 21] := go_region _ _
@[go_sem] def r_foot_PutTypes_7_o : Ops := [
oo 29 (.fieldA 1 (.t 7)), oo 30 (.load none (.t 29)), oo 31 (.len false (.t 30)), oo 32 (.mv (ci 0))]
def r_foot_PutTypes_7 := rg r_foot_PutTypes_7_o [5, 7, 8, 9, 19, 20, 21, 30, 31, 32]
@[go_sem] theorem r_foot_PutTypes_7_u : Gr X K s r_foot_PutTypes_7 r_foot_PutTypes_7_o [5, 7, 8, 9, 19, 20, 21, 30, 31, 32] := go_region _ _
@[go_sem] def r_foot_PutTypes_8_o : Ops := [
oo 33 (.bin .lss (.t 32) (.t 31))]
def r_foot_PutTypes_8 := rg r_foot_PutTypes_8_o [5, 7, 8, 9, 19, 20, 21, 30, 31, 32, 33]
@[go_sem] theorem r_foot_PutTypes_8_u : Gr X K s r_foot_PutTypes_8 r_foot_PutTypes_8_o [5, 7, 8, 9, 19, 20, 21, 30, 31, 32, 33] := go_region _ _
@[go_sem] def r_foot_PutTypes_9_o : Ops := [
oo 34 (.idxA 1 (.t 30) (.t 32)), oo 35 (.load none (.t 34)), oo 11 (.asg (.t 35))]
def r_foot_PutTypes_9 := rg r_foot_PutTypes_9_o [5, 7, 8, 9, 11, 19, 20, 21, 30, 31, 32]
@[go_sem] theorem r_foot_PutTypes_9_u : Gr X K s r_foot_PutTypes_9 r_foot_PutTypes_9_o [5, 7, 8, 9, 11, 19, 20, 21, 30, 31, 32] := go_region _ _
@[go_sem] def r_foot_PutTypes_10_o : Ops := [
oo 36 (.mv (.t 9)), oo 37 (.mv (.t 11)), oo 38 (.cvInt .u64 (.t 37)), oo 39 (.call false n_nums_PutVar [(.t 36), (.t 38)]), oo 9 (.asg (.t 39))]
def r_foot_PutTypes_10 := rg r_foot_PutTypes_10_o [5, 7, 8, 9, 19, 20, 21, 30, 31, 32]
@[go_sem] theorem r_foot_PutTypes_10_u : Gr X K s r_foot_PutTypes_10 r_foot_PutTypes_10_o [5, 7, 8, 9, 19, 20, 21, 30, 31, 32] := go_region _ _
@[go_sem] def r_foot_PutTypes_11_o : Ops := [
oo 40 (.bin .add (.t 32) (ci 1)), oo 32 (.mv (.t 40))]
def r_foot_PutTypes_11 := rg r_foot_PutTypes_11_o [5, 7, 8, 9, 19, 20, 21, 30, 31, 32]
@[go_sem] theorem r_foot_PutTypes_11_u : Gr X K s r_foot_PutTypes_11 r_foot_PutTypes_11_o [5, 7, 8, 9, 19, 20, 21, 30, 31, 32] := go_region _ _
def b_foot_PutTypes_12 : ICode := (.seq r_foot_PutTypes_8 (.seq (.cond (.t 33) .skip (.exit 2)) (.seq (.block 3 (.seq r_foot_PutTypes_9 r_foot_PutTypes_10)) r_foot_PutTypes_11)))
@[go_sem] theorem b_foot_PutTypes_12_u : Gn X K s b_foot_PutTypes_12 (.seq r_foot_PutTypes_8 (.seq (.cond (.t 33) .skip (.exit 2)) (.seq (.block 3 (.seq r_foot_PutTypes_9 r_foot_PutTypes_10)) r_foot_PutTypes_11))) := rfl
@[go_sem] def r_foot_PutTypes_13_o : Ops := [
oo 41 (.mv (.t 9)), oo 42 (.len false (.t 41)), oo 43 (.bin .gtr (.t 42) (ci 0))]
def r_foot_PutTypes_13 := rg r_foot_PutTypes_13_o [5, 7, 8, 9, 19, 20, 21, 43]
@[go_sem] theorem r_foot_PutTypes_13_u : Gr X K s r_foot_PutTypes_13 r_foot_PutTypes_13_o [5, 7, 8, 9, 19, 20, 21, 43] := go_region _ _
@[go_sem] def r_foot_PutTypes_14_o : Ops := [
oo 44 (.mv (.t 8)), oo 45 (.mv (.t 9)), oo 46 (.call false n_pb_PutBytes [(.t 44), (ci 2), (.t 45)]), oo 8 (.asg (.t 46))]
def r_foot_PutTypes_14 := rg r_foot_PutTypes_14_o [5, 7, 8, 19, 20, 21]
@[go_sem] theorem r_foot_PutTypes_14_u : Gr X K s r_foot_PutTypes_14 r_foot_PutTypes_14_o [5, 7, 8, 19, 20, 21] := go_region _ _
@[go_sem] def r_foot_PutTypes_15_o : Ops := [
oo 47 (.fieldA 2 (.t 7)), oo 48 (.load none (.t 47)), oo 49 (.len false (.t 48)), oo 50 (.mv (ci 0))]
def r_foot_PutTypes_15 := rg r_foot_PutTypes_15_o [5, 7, 8, 19, 20, 21, 48, 49, 50]
@[go_sem] theorem r_foot_PutTypes_15_u : Gr X K s r_foot_PutTypes_15 r_foot_PutTypes_15_o [5, 7, 8, 19, 20, 21, 48, 49, 50] := go_region _ _
@[go_sem] def r_foot_PutTypes_16_o : Ops := [
oo 51 (.bin .lss (.t 50) (.t 49))]
def r_foot_PutTypes_16 := rg r_foot_PutTypes_16_o [5, 7, 8, 19, 20, 21, 48, 49, 50, 51]
@[go_sem] theorem r_foot_PutTypes_16_u : Gr X K s r_foot_PutTypes_16 r_foot_PutTypes_16_o [5, 7, 8, 19, 20, 21, 48, 49, 50, 51] := go_region _ _
@[go_sem] def r_foot_PutTypes_17_o : Ops := [
oo 52 (.idxA 1 (.t 48) (.t 50)), oo 53 (.load none (.t 52)), oo 13 (.asg (.t 53))]
def r_foot_PutTypes_17 := rg r_foot_PutTypes_17_o [5, 7, 8, 13, 19, 20, 21, 48, 49, 50]
@[go_sem] theorem r_foot_PutTypes_17_u : Gr X K s r_foot_PutTypes_17 r_foot_PutTypes_17_o [5, 7, 8, 13, 19, 20, 21, 48, 49, 50] := go_region _ _
@[go_sem] def r_foot_PutTypes_18_o : Ops := [
oo 54 (.mv (.t 8)), oo 55 (.mv (.t 13)), oo 56 (.s2b false (.t 55)), oo 57 (.call false n_pb_PutBytes [(.t 54), (ci 3), (.t 56)]), oo 8 (.asg (.t 57))]
def r_foot_PutTypes_18 := rg r_foot_PutTypes_18_o [5, 7, 8, 19, 20, 21, 48, 49, 50]
@[go_sem] theorem r_foot_PutTypes_18_u : Gr X K s r_foot_PutTypes_18 r_foot_PutTypes_18_o [5, 7, 8, 19, 20, 21, 48, 49, 50] := go_region _ _
@[go_sem] def r_foot_PutTypes_19_o : Ops := [
oo 58 (.bin .add (.t 50) (ci 1)), oo 50 (.mv (.t 58))]
def r_foot_PutTypes_19 := rg r_foot_PutTypes_19_o [5, 7, 8, 19, 20, 21, 48, 49, 50]
@[go_sem] theorem r_foot_PutTypes_19_u : Gr X K s r_foot_PutTypes_19 r_foot_PutTypes_19_o [5, 7, 8, 19, 20, 21, 48, 49, 50] := go_region _ _
def b_foot_PutTypes_20 : ICode := (.seq r_foot_PutTypes_16 (.seq (.cond (.t 51) .skip (.exit 4)) (.seq (.block 5 (.seq r_foot_PutTypes_17 r_foot_PutTypes_18)) r_foot_PutTypes_19)))
@[go_sem] theorem b_foot_PutTypes_20_u : Gn X K s b_foot_PutTypes_20 (.seq r_foot_PutTypes_16 (.seq (.cond (.t 51) .skip (.exit 4)) (.seq (.block 5 (.seq r_foot_PutTypes_17 r_foot_PutTypes_18)) r_foot_PutTypes_19))) := rfl
@[go_sem] def r_foot_PutTypes_21_o : Ops := [
oo 59 (.fieldA 3 (.t 7)), oo 60 (.load none (.t 59)), oo 61 (.fieldA 4 (.t 7)), oo 62 (.load none (.t 61)), oo 63 (.fieldA 5 (.t 7)), oo 64 (.load none (.t 63)), oo 65 (.lit false 1 3 (.int .i64 0) [(0, (.t 60)), (1, (.t 62)), (2, (.t 64))]), oo 66 (.len false (.t 65)), oo 67 (.mv (ci 0))]
def r_foot_PutTypes_21 := rg r_foot_PutTypes_21_o [5, 8, 19, 20, 21, 65, 66, 67]
@[go_sem] theorem r_foot_PutTypes_21_u : Gr X K s r_foot_PutTypes_21 r_foot_PutTypes_21_o [5, 8, 19, 20, 21, 65, 66, 67] := go_region _ _
@[go_sem] def r_foot_PutTypes_22_o : Ops := [
oo 68 (.bin .lss (.t 67) (.t 66))]
def r_foot_PutTypes_22 := rg r_foot_PutTypes_22_o [5, 8, 19, 20, 21, 65, 66, 67, 68]
@[go_sem] theorem r_foot_PutTypes_22_u : Gr X K s r_foot_PutTypes_22 r_foot_PutTypes_22_o [5, 8, 19, 20, 21, 65, 66, 67, 68] := go_region _ _
@[go_sem] def r_foot_PutTypes_23_o : Ops := [
oo 69 (.mv (.t 67)), oo 70 (.idxA 1 (.t 65) (.t 67)), oo 71 (.load none (.t 70)), oo 14 (.asg (.t 69)), oo 15 (.asg (.t 71))]
def r_foot_PutTypes_23 := rg r_foot_PutTypes_23_o [5, 8, 14, 15, 19, 20, 21, 65, 66, 67]
@[go_sem] theorem r_foot_PutTypes_23_u : Gr X K s r_foot_PutTypes_23 r_foot_PutTypes_23_o [5, 8, 14, 15, 19, 20, 21, 65, 66, 67] := go_region _ _
@[go_sem] def r_foot_PutTypes_24_o : Ops := [
oo 72 (.mv (.t 15)), oo 73 (.bin .neq (.t 72) (ci 0))]
def r_foot_PutTypes_24 := rg r_foot_PutTypes_24_o [5, 8, 14, 15, 19, 20, 21, 65, 66, 67, 73]
@[go_sem] theorem r_foot_PutTypes_24_u : Gr X K s r_foot_PutTypes_24 r_foot_PutTypes_24_o [5, 8, 14, 15, 19, 20, 21, 65, 66, 67, 73] := go_region _ _
@[go_sem] def r_foot_PutTypes_25_o : Ops := [
oo 74 (.mv (.t 8)), oo 75 (.mv (.t 14)), oo 76 (.bin .add (ci 4) (.t 75)), oo 77 (.mv (.t 15)), oo 78 (.cvInt .u64 (.t 77)), oo 79 (.call false n_pb_PutUint [(.t 74), (.t 76), (.t 78)]), oo 8 (.asg (.t 79))]
def r_foot_PutTypes_25 := rg r_foot_PutTypes_25_o [5, 8, 19, 20, 21, 65, 66, 67]
@[go_sem] theorem r_foot_PutTypes_25_u : Gr X K s r_foot_PutTypes_25 r_foot_PutTypes_25_o [5, 8, 19, 20, 21, 65, 66, 67] := go_region _ _
@[go_sem] def r_foot_PutTypes_26_o : Ops := [
oo 80 (.bin .add (.t 67) (ci 1)), oo 67 (.mv (.t 80))]
def r_foot_PutTypes_26 := rg r_foot_PutTypes_26_o [5, 8, 19, 20, 21, 65, 66, 67]
@[go_sem] theorem r_foot_PutTypes_26_u : Gr X K s r_foot_PutTypes_26 r_foot_PutTypes_26_o [5, 8, 19, 20, 21, 65, 66, 67] := go_region _ _
def b_foot_PutTypes_27 : ICode := (.seq r_foot_PutTypes_22 (.seq (.cond (.t 68) .skip (.exit 6)) (.seq (.block 7 (.seq r_foot_PutTypes_23 (.seq r_foot_PutTypes_24 (.cond (.t 73) r_foot_PutTypes_25 .skip)))) r_foot_PutTypes_26)))
@[go_sem] theorem b_foot_PutTypes_27_u : Gn X K s b_foot_PutTypes_27 (.seq r_foot_PutTypes_22 (.seq (.cond (.t 68) .skip (.exit 6)) (.seq (.block 7 (.seq r_foot_PutTypes_23 (.seq r_foot_PutTypes_24 (.cond (.t 73) r_foot_PutTypes_25 .skip)))) r_foot_PutTypes_26))) := rfl
@[go_sem] def r_foot_PutTypes_28_o : Ops := [
oo 81 (.mv (.t 5)), oo 82 (.mv (.t 8)), oo 83 (.call false n_pb_PutBytes [(.t 81), (ci 4), (.t 82)]), oo 5 (.asg (.t 83))]
def r_foot_PutTypes_28 := rg r_foot_PutTypes_28_o [5, 19, 20, 21]
@[go_sem] theorem r_foot_PutTypes_28_u : Gr X K s r_foot_PutTypes_28 r_foot_PutTypes_28_o [5, 19, 20, 21] := go_region _ _
@[go_sem] def r_foot_PutTypes_29_o : Ops := [
oo 84 (.bin .add (.t 21) (ci 1)), oo 21 (.mv (.t 84))]
def r_foot_PutTypes_29 := rg r_foot_PutTypes_29_o [5, 19, 20, 21]
@[go_sem] theorem r_foot_PutTypes_29_u : Gr X K s r_foot_PutTypes_29 r_foot_PutTypes_29_o [5, 19, 20, 21] := go_region _ _
def b_foot_PutTypes_30 : ICode := (.seq r_foot_PutTypes_3 (.seq (.cond (.t 22) .skip (.exit 0)) (.seq (.block 1 (.seq (.seq (.free 7) r_foot_PutTypes_4) (.seq r_foot_PutTypes_5 (.seq r_foot_PutTypes_6 (.seq (.seq r_foot_PutTypes_7 (.block 2 (.loop b_foot_PutTypes_12))) (.seq (.seq r_foot_PutTypes_13 (.cond (.t 43) r_foot_PutTypes_14 .skip)) (.seq (.seq r_foot_PutTypes_15 (.block 4 (.loop b_foot_PutTypes_20))) (.seq (.seq r_foot_PutTypes_21 (.block 6 (.loop b_foot_PutTypes_27))) r_foot_PutTypes_28)))))))) r_foot_PutTypes_29)))
@[go_sem] theorem b_foot_PutTypes_30_u : Gn X K s b_foot_PutTypes_30 (.seq r_foot_PutTypes_3 (.seq (.cond (.t 22) .skip (.exit 0)) (.seq (.block 1 (.seq (.seq (.free 7) r_foot_PutTypes_4) (.seq r_foot_PutTypes_5 (.seq r_foot_PutTypes_6 (.seq (.seq r_foot_PutTypes_7 (.block 2 (.loop b_foot_PutTypes_12))) (.seq (.seq r_foot_PutTypes_13 (.cond (.t 43) r_foot_PutTypes_14 .skip)) (.seq (.seq r_foot_PutTypes_15 (.block 4 (.loop b_foot_PutTypes_20))) (.seq (.seq r_foot_PutTypes_21 (.block 6 (.loop b_foot_PutTypes_27))) r_foot_PutTypes_28)))))))) r_foot_PutTypes_29))) := rfl
@[go_sem] def r_foot_PutTypes_31_o : Ops := [
oo 85 (.mv (.t 5)), oo 4 (.asg (.t 85))]
def r_foot_PutTypes_31 := rg r_foot_PutTypes_31_o [4]
@[go_sem] theorem r_foot_PutTypes_31_u : Gr X K s r_foot_PutTypes_31 r_foot_PutTypes_31_o [4] := go_region _ _
def c_foot_PutTypes : ICode := (.seq r_foot_PutTypes_0 (.seq r_foot_PutTypes_1 (.seq (.seq r_foot_PutTypes_2 (.block 0 (.loop b_foot_PutTypes_30))) (.seq r_foot_PutTypes_31 .ret))))
def i_foot_PutTypes : IFunc := ⟨2, [.t 4], c_foot_PutTypes⟩
def a_foot_PutTypes : Advice := ⟨[], [(27, [4]), (26, [5, 19, 20, 21]), (25, [5, 19, 20, 21]), (24, [5, 8, 19, 20, 21, 65, 66, 67]), (23, [5, 8, 19, 20, 21, 65, 66, 67]), (22, [5, 8, 14, 15, 19, 20, 21, 65, 66, 67, 73]), (21, [5, 8, 14, 15, 19, 20, 21, 65, 66, 67]), (20, [5, 8, 19, 20, 21, 65, 66, 67, 68]), (19, [5, 8, 19, 20, 21, 65, 66, 67]), (18, [5, 7, 8, 19, 20, 21, 48, 49, 50]), (17, [5, 7, 8, 19, 20, 21, 48, 49, 50]), (16, [5, 7, 8, 13, 19, 20, 21, 48, 49, 50]), (15, [5, 7, 8, 19, 20, 21, 48, 49, 50, 51]), (14, [5, 7, 8, 19, 20, 21, 48, 49, 50]), (13, [5, 7, 8, 19, 20, 21]), (12, [5, 7, 8, 9, 19, 20, 21, 43]), (11, [5, 7, 8, 9, 19, 20, 21, 30, 31, 32]), (10, [5, 7, 8, 9, 19, 20, 21, 30, 31, 32]), (9, [5, 7, 8, 9, 11, 19, 20, 21, 30, 31, 32]), (8, [5, 7, 8, 9, 19, 20, 21, 30, 31, 32, 33]), (7, [5, 7, 8, 9, 19, 20, 21, 30, 31, 32]), (6, [5, 7, 8, 9, 19, 20, 21]), (5, [5, 7, 8, 19, 20, 21]), (4, [5, 7, 19, 20, 21]), (3, [5, 19, 20, 21, 22]), (2, [5, 19, 20, 21]), (1, [3, 5]), (0, [0, 3])], [], [(4, [7])], [], []⟩
/-! ingot/pb.PutBytes -/
@[go_sem] def r_pb_PutBytes_0_o : Ops := [
oo 6 (.asg (.c .nilS))]
def r_pb_PutBytes_0 := rg r_pb_PutBytes_0_o [0, 1, 2]
@[go_sem] theorem r_pb_PutBytes_0_u : Gr X K s r_pb_PutBytes_0 r_pb_PutBytes_0_o [0, 1, 2] := go_region _ _
@[go_sem] def r_pb_PutBytes_1_o : Ops := [
oo 10 (.mv (.t 0)), oo 11 (.mv (.t 1)), oo 12 (.call false n_pb_head [(.t 10), (.t 11), (ci 2)]), oo 9 (.mv (.t 12)), oo 13 (.ext (.t 9) 0), oo 14 (.ext (.t 9) 1), oo 7 (.asg (.t 13)), oo 8 (.asg (.t 14))]
def r_pb_PutBytes_1 := rg r_pb_PutBytes_1_o [2, 7, 8]
@[go_sem] theorem r_pb_PutBytes_1_u : Gr X K s r_pb_PutBytes_1 r_pb_PutBytes_1_o [2, 7, 8] := go_region _ _
@[go_sem] def r_pb_PutBytes_2_o : Ops := [
oo 15 (.mv (.t 8)), oo 16 (.un .not (.t 15))]
def r_pb_PutBytes_2 := rg r_pb_PutBytes_2_o [2, 7, 16]
@[go_sem] theorem r_pb_PutBytes_2_u : Gr X K s r_pb_PutBytes_2 r_pb_PutBytes_2_o [2, 7, 16] := go_region _ _
@[go_sem] def r_pb_PutBytes_3_o : Ops := [
oo 17 (.mv (.t 7)), oo 6 (.asg (.t 17))]
def r_pb_PutBytes_3 := rg r_pb_PutBytes_3_o [6]
@[go_sem] theorem r_pb_PutBytes_3_u : Gr X K s r_pb_PutBytes_3 r_pb_PutBytes_3_o [6] := go_region _ _
@[go_sem] def r_pb_PutBytes_4_o : Ops := [
oo 18 (.mv (.t 7)), oo 19 (.mv (.t 2)), oo 20 (.len false (.t 19)), oo 21 (.cvInt .u64 (.t 20)), oo 22 (.call true n_nums_PutVar [(.t 18), (.t 21)]), oo 23 (.mv (.t 2)), oo 24 (.append 1 1 (.t 22) (.t 23)), oo 25 (.call false n_slices_Clip_Sbyte_byte [(.t 24)]), oo 6 (.asg (.t 25))]
def r_pb_PutBytes_4 := rg r_pb_PutBytes_4_o [6]
@[go_sem] theorem r_pb_PutBytes_4_u : Gr X K s r_pb_PutBytes_4 r_pb_PutBytes_4_o [6] := go_region _ _
def c_pb_PutBytes : ICode := (.seq r_pb_PutBytes_0 (.seq r_pb_PutBytes_1 (.seq r_pb_PutBytes_2 (.cond (.t 16) (.seq r_pb_PutBytes_3 .ret) (.seq r_pb_PutBytes_4 .ret)))))
def i_pb_PutBytes : IFunc := ⟨3, [.t 6], c_pb_PutBytes⟩
def a_pb_PutBytes : Advice := ⟨[22], [(4, [6]), (3, [6]), (2, [2, 7, 16]), (1, [2, 7, 8]), (0, [0, 1, 2])], [], [], [], []⟩
/-! ingot/nums.PutVar -/
@[go_sem] def r_nums_PutVar_0_o : Ops := [
oo 4 (.asg (.c .nilS))]
def r_nums_PutVar_0 := rg r_nums_PutVar_0_o [0, 1]
@[go_sem] theorem r_nums_PutVar_0_u : Gr X K s r_nums_PutVar_0 r_nums_PutVar_0_o [0, 1] := go_region _ _
@[go_sem] def r_nums_PutVar_1_o : Ops := [
oo 6 (.mv (.t 0)), oo 7 (.call true n_slices_Clone_Sbyte_byte [(.t 6)]), oo 5 (.asg (.t 7))]
def r_nums_PutVar_1 := rg r_nums_PutVar_1_o [1, 5]
@[go_sem] theorem r_nums_PutVar_1_u : Gr X K s r_nums_PutVar_1 r_nums_PutVar_1_o [1, 5] := go_region _ _
@[go_sem] def r_nums_PutVar_2_o : Ops := [
oo 8 (.mv (.t 1)), oo 9 (.bin .geq (.t 8) (.c (.int .u64 128)))]
def r_nums_PutVar_2 := rg r_nums_PutVar_2_o [1, 5, 9]
@[go_sem] theorem r_nums_PutVar_2_u : Gr X K s r_nums_PutVar_2 r_nums_PutVar_2_o [1, 5, 9] := go_region _ _
@[go_sem] def r_nums_PutVar_3_o : Ops := [
oo 10 (.mv (.t 5)), oo 11 (.mv (.t 1)), oo 12 (.cvInt .u8 (.t 11)), oo 13 (.bin .or (.t 12) (.c (.int .u8 128))), oo 14 (.lit false 1 1 (.int .u8 0) [(0, (.t 13))]), oo 15 (.append 1 1 (.t 10) (.t 14)), oo 5 (.asg (.t 15))]
def r_nums_PutVar_3 := rg r_nums_PutVar_3_o [1, 5]
@[go_sem] theorem r_nums_PutVar_3_u : Gr X K s r_nums_PutVar_3 r_nums_PutVar_3_o [1, 5] := go_region _ _
@[go_sem] def r_nums_PutVar_4_o : Ops := [
oo 16 (.mv (.t 1)), oo 17 (.bin .shr (.t 16) (.c (.int .u64 7))), oo 1 (.asg (.t 17))]
def r_nums_PutVar_4 := rg r_nums_PutVar_4_o [1, 5]
@[go_sem] theorem r_nums_PutVar_4_u : Gr X K s r_nums_PutVar_4 r_nums_PutVar_4_o [1, 5] := go_region _ _
def b_nums_PutVar_5 : ICode := (.seq (.seq r_nums_PutVar_2 (.cond (.t 9) .skip (.exit 0))) (.block 1 (.seq r_nums_PutVar_3 r_nums_PutVar_4)))
@[go_sem] theorem b_nums_PutVar_5_u : Gn X K s b_nums_PutVar_5 (.seq (.seq r_nums_PutVar_2 (.cond (.t 9) .skip (.exit 0))) (.block 1 (.seq r_nums_PutVar_3 r_nums_PutVar_4))) := rfl
@[go_sem] def r_nums_PutVar_6_o : Ops := [
oo 18 (.mv (.t 5)), oo 19 (.mv (.t 1)), oo 20 (.cvInt .u8 (.t 19)), oo 21 (.lit false 1 1 (.int .u8 0) [(0, (.t 20))]), oo 22 (.append 1 1 (.t 18) (.t 21)), oo 23 (.call false n_slices_Clip_Sbyte_byte [(.t 22)]), oo 4 (.asg (.t 23))]
def r_nums_PutVar_6 := rg r_nums_PutVar_6_o [4]
@[go_sem] theorem r_nums_PutVar_6_u : Gr X K s r_nums_PutVar_6 r_nums_PutVar_6_o [4] := go_region _ _
def c_nums_PutVar : ICode := (.seq r_nums_PutVar_0 (.seq r_nums_PutVar_1 (.seq (.block 0 (.loop b_nums_PutVar_5)) (.seq r_nums_PutVar_6 .ret))))
def i_nums_PutVar : IFunc := ⟨2, [.t 4], c_nums_PutVar⟩
def a_nums_PutVar : Advice := ⟨[7, 15], [(5, [4]), (4, [1, 5]), (3, [1, 5]), (2, [1, 5, 9]), (1, [1, 5]), (0, [0, 1])], [], [], [], []⟩
/-! slices.Clone[[]byte,byte] -/
@[go_sem] def r_slices_Clone_Sbyte_byte_0_o : Ops := [
oo 2 (.asg (.c .nilS))]
def r_slices_Clone_Sbyte_byte_0 := rg r_slices_Clone_Sbyte_byte_0_o [0]
@[go_sem] theorem r_slices_Clone_Sbyte_byte_0_u : Gr X K s r_slices_Clone_Sbyte_byte_0 r_slices_Clone_Sbyte_byte_0_o [0] := go_region _ _
@[go_sem] def r_slices_Clone_Sbyte_byte_1_o : Ops := [
oo 3 (.mv (.t 0)), oo 4 (.isNil false (.t 3))]
def r_slices_Clone_Sbyte_byte_1 := rg r_slices_Clone_Sbyte_byte_1_o [0, 4]
@[go_sem] theorem r_slices_Clone_Sbyte_byte_1_u : Gr X K s r_slices_Clone_Sbyte_byte_1 r_slices_Clone_Sbyte_byte_1_o [0, 4] := go_region _ _
@[go_sem] def r_slices_Clone_Sbyte_byte_2_o : Ops := [
oo 2 (.asg (.c .nilS))]
def r_slices_Clone_Sbyte_byte_2 := rg r_slices_Clone_Sbyte_byte_2_o [2]
@[go_sem] theorem r_slices_Clone_Sbyte_byte_2_u : Gr X K s r_slices_Clone_Sbyte_byte_2 r_slices_Clone_Sbyte_byte_2_o [2] := go_region _ _
@[go_sem] def r_slices_Clone_Sbyte_byte_3_o : Ops := [
oo 5 (.lit true 1 0 (.int .u8 0) []), oo 6 (.mv (.t 0)), oo 7 (.append 1 1 (.t 5) (.t 6)), oo 2 (.asg (.t 7))]
def r_slices_Clone_Sbyte_byte_3 := rg r_slices_Clone_Sbyte_byte_3_o [2]
@[go_sem] theorem r_slices_Clone_Sbyte_byte_3_u : Gr X K s r_slices_Clone_Sbyte_byte_3 r_slices_Clone_Sbyte_byte_3_o [2] := go_region _ _
def c_slices_Clone_Sbyte_byte : ICode := (.seq r_slices_Clone_Sbyte_byte_0 (.seq r_slices_Clone_Sbyte_byte_1 (.cond (.t 4) (.seq r_slices_Clone_Sbyte_byte_2 .ret) (.seq r_slices_Clone_Sbyte_byte_3 .ret))))
def i_slices_Clone_Sbyte_byte : IFunc := ⟨1, [.t 2], c_slices_Clone_Sbyte_byte⟩
def a_slices_Clone_Sbyte_byte : Advice := ⟨[5], [(3, [2]), (2, [2]), (1, [0, 4]), (0, [0])], [], [], [], []⟩
/-! ingot/pb.head -/
@[go_sem] def r_pb_head_0_o : Ops := [
oo 6 (.asg (.c .nilS)), oo 7 (.asg (.c (.bool false)))]
def r_pb_head_0 := rg r_pb_head_0_o [0, 1, 2]
@[go_sem] theorem r_pb_head_0_u : Gr X K s r_pb_head_0 r_pb_head_0_o [0, 1, 2] := go_region _ _
@[go_sem] def r_pb_head_1_o : Ops := [
oo 8 (.mv (.t 1)), oo 9 (.bin .lss (.t 8) (ci 1)), oo 10 (.mv (.t 9)), og 11 10 false (.mv (.t 1)), og 12 10 false (.bin .gtr (.t 11) (ci 536870911)), oo 13 (.pick (.t 10) (.c (.bool true)) (.t 12))]
def r_pb_head_1 := rg r_pb_head_1_o [0, 1, 2, 13]
@[go_sem] theorem r_pb_head_1_u : Gr X K s r_pb_head_1 r_pb_head_1_o [0, 1, 2, 13] := go_region _ _
@[go_sem] def r_pb_head_2_o : Ops := [
oo 14 (.mv (.t 0)), oo 15 (.call false n_slices_Clone_Sbyte_byte [(.t 14)]), oo 6 (.asg (.t 15)), oo 7 (.asg (.c (.bool false)))]
def r_pb_head_2 := rg r_pb_head_2_o [6, 7]
@[go_sem] theorem r_pb_head_2_u : Gr X K s r_pb_head_2 r_pb_head_2_o [6, 7] := go_region _ _
@[go_sem] def r_pb_head_3_o : Ops := [
oo 16 (.mv (.t 0)), oo 17 (.mv (.t 1)), oo 18 (.cvInt .u64 (.t 17)), oo 19 (.bin .shl (.t 18) (.c (.int .u64 3))), oo 20 (.mv (.t 2)), oo 21 (.cvInt .u64 (.t 20)), oo 22 (.bin .or (.t 19) (.t 21)), oo 23 (.call false n_nums_PutVar [(.t 16), (.t 22)]), oo 6 (.asg (.t 23)), oo 7 (.asg (.c (.bool true)))]
def r_pb_head_3 := rg r_pb_head_3_o [6, 7]
@[go_sem] theorem r_pb_head_3_u : Gr X K s r_pb_head_3 r_pb_head_3_o [6, 7] := go_region _ _
def c_pb_head : ICode := (.seq r_pb_head_0 (.seq r_pb_head_1 (.cond (.t 13) (.seq r_pb_head_2 .ret) (.seq r_pb_head_3 .ret))))
def i_pb_head : IFunc := ⟨3, [.t 6, .t 7], c_pb_head⟩
def a_pb_head : Advice := ⟨[], [(3, [6, 7]), (2, [6, 7]), (1, [0, 1, 2, 13]), (0, [0, 1, 2])], [], [], [], []⟩
/-! ingot/pb.PutUint -/
@[go_sem] def r_pb_PutUint_0_o : Ops := [
oo 6 (.asg (.c .nilS))]
def r_pb_PutUint_0 := rg r_pb_PutUint_0_o [0, 1, 2]
@[go_sem] theorem r_pb_PutUint_0_u : Gr X K s r_pb_PutUint_0 r_pb_PutUint_0_o [0, 1, 2] := go_region _ _
@[go_sem] def r_pb_PutUint_1_o : Ops := [
oo 10 (.mv (.t 0)), oo 11 (.mv (.t 1)), oo 12 (.call false n_pb_head [(.t 10), (.t 11), (ci 0)]), oo 9 (.mv (.t 12)), oo 13 (.ext (.t 9) 0), oo 14 (.ext (.t 9) 1), oo 7 (.asg (.t 13)), oo 8 (.asg (.t 14))]
def r_pb_PutUint_1 := rg r_pb_PutUint_1_o [2, 7, 8]
@[go_sem] theorem r_pb_PutUint_1_u : Gr X K s r_pb_PutUint_1 r_pb_PutUint_1_o [2, 7, 8] := go_region _ _
@[go_sem] def r_pb_PutUint_2_o : Ops := [
oo 15 (.mv (.t 8)), oo 16 (.un .not (.t 15))]
def r_pb_PutUint_2 := rg r_pb_PutUint_2_o [2, 7, 16]
@[go_sem] theorem r_pb_PutUint_2_u : Gr X K s r_pb_PutUint_2 r_pb_PutUint_2_o [2, 7, 16] := go_region _ _
@[go_sem] def r_pb_PutUint_3_o : Ops := [
oo 17 (.mv (.t 7)), oo 6 (.asg (.t 17))]
def r_pb_PutUint_3 := rg r_pb_PutUint_3_o [6]
@[go_sem] theorem r_pb_PutUint_3_u : Gr X K s r_pb_PutUint_3 r_pb_PutUint_3_o [6] := go_region _ _
@[go_sem] def r_pb_PutUint_4_o : Ops := [
oo 18 (.mv (.t 7)), oo 19 (.mv (.t 2)), oo 20 (.call false n_nums_PutVar [(.t 18), (.t 19)]), oo 6 (.asg (.t 20))]
def r_pb_PutUint_4 := rg r_pb_PutUint_4_o [6]
@[go_sem] theorem r_pb_PutUint_4_u : Gr X K s r_pb_PutUint_4 r_pb_PutUint_4_o [6] := go_region _ _
def c_pb_PutUint : ICode := (.seq r_pb_PutUint_0 (.seq r_pb_PutUint_1 (.seq r_pb_PutUint_2 (.cond (.t 16) (.seq r_pb_PutUint_3 .ret) (.seq r_pb_PutUint_4 .ret)))))
def i_pb_PutUint : IFunc := ⟨3, [.t 6], c_pb_PutUint⟩
def a_pb_PutUint : Advice := ⟨[], [(4, [6]), (3, [6]), (2, [2, 7, 16]), (1, [2, 7, 8]), (0, [0, 1, 2])], [], [], [], []⟩
/-! ingot/foot.right -/
@[go_sem] def r_foot_right_0_o : Ops := [
oo 2 (.box 12 (.t 0)), oo 4 (.asg (.c (.bool false)))]
def r_foot_right_0 := rg r_foot_right_0_o [1, 2]
@[go_sem] theorem r_foot_right_0_u : Gr X K s r_foot_right_0 r_foot_right_0_o [1, 2] := go_region _ _
@[go_sem] def r_foot_right_1_o : Ops := [
oo 7 (.fieldA 1 (.t 2)), oo 8 (.load none (.t 7)), oo 9 (.len false (.t 8)), oo 10 (.mv (ci 0))]
def r_foot_right_1 := rg r_foot_right_1_o [1, 2, 8, 9, 10]
@[go_sem] theorem r_foot_right_1_u : Gr X K s r_foot_right_1 r_foot_right_1_o [1, 2, 8, 9, 10] := go_region _ _
@[go_sem] def r_foot_right_2_o : Ops := [
oo 11 (.bin .lss (.t 10) (.t 9))]
def r_foot_right_2 := rg r_foot_right_2_o [1, 2, 8, 9, 10, 11]
@[go_sem] theorem r_foot_right_2_u : Gr X K s r_foot_right_2 r_foot_right_2_o [1, 2, 8, 9, 10, 11] := go_region _ _
@[go_sem] def r_foot_right_3_o : Ops := [
oo 12 (.idxA 5 (.t 8) (.t 10)), oo 13 (.load (some 5) (.t 12)), oo 6 (.alloc [(.int .i64 0), (.int .i64 0), (.int .i64 0), (.int .i64 0), (.int .i64 0)]), ow (.store 5 (.t 6) (.t 13))]
def r_foot_right_3 := rg r_foot_right_3_o [1, 2, 6, 8, 9, 10]
@[go_sem] theorem r_foot_right_3_u : Gr X K s r_foot_right_3 r_foot_right_3_o [1, 2, 6, 8, 9, 10] := go_region _ _
@[go_sem] def r_foot_right_4_o : Ops := [
oo 14 (.load (some 5) (.t 6)), oo 15 (.call false n_foot_Stripe_numbers [(.t 14)]), oo 16 (.call false n_foot_in [(.t 15)]), oo 17 (.un .not (.t 16))]
def r_foot_right_4 := rg r_foot_right_4_o [1, 2, 8, 9, 10, 17]
@[go_sem] theorem r_foot_right_4_u : Gr X K s r_foot_right_4 r_foot_right_4_o [1, 2, 8, 9, 10, 17] := go_region _ _
@[go_sem] def r_foot_right_5_o : Ops := [
oo 4 (.asg (.c (.bool false)))]
def r_foot_right_5 := rg r_foot_right_5_o [4]
@[go_sem] theorem r_foot_right_5_u : Gr X K s r_foot_right_5 r_foot_right_5_o [4] := go_region _ _
@[go_sem] def r_foot_right_6_o : Ops := [
oo 18 (.bin .add (.t 10) (ci 1)), oo 10 (.mv (.t 18))]
def r_foot_right_6 := rg r_foot_right_6_o [1, 2, 8, 9, 10]
@[go_sem] theorem r_foot_right_6_u : Gr X K s r_foot_right_6 r_foot_right_6_o [1, 2, 8, 9, 10] := go_region _ _
def b_foot_right_7 : ICode := (.seq r_foot_right_2 (.seq (.cond (.t 11) .skip (.exit 0)) (.seq (.block 1 (.seq (.seq (.free 6) r_foot_right_3) (.seq r_foot_right_4 (.cond (.t 17) (.seq r_foot_right_5 .ret) .skip)))) r_foot_right_6)))
@[go_sem] theorem b_foot_right_7_u : Gn X K s b_foot_right_7 (.seq r_foot_right_2 (.seq (.cond (.t 11) .skip (.exit 0)) (.seq (.block 1 (.seq (.seq (.free 6) r_foot_right_3) (.seq r_foot_right_4 (.cond (.t 17) (.seq r_foot_right_5 .ret) .skip)))) r_foot_right_6))) := rfl
@[go_sem] def r_foot_right_8_o : Ops := [
oo 19 (.fieldA 0 (.t 2)), oo 20 (.load none (.t 19)), oo 21 (.fieldA 9 (.t 2)), oo 22 (.load none (.t 21)), oo 23 (.fieldA 11 (.t 2)), oo 24 (.load none (.t 23)), oo 25 (.lit false 1 3 (.int .i64 0) [(0, (.t 20)), (1, (.t 22)), (2, (.t 24))]), oo 26 (.call false n_foot_in [(.t 25)]), oo 27 (.mv (.t 26)), og 28 27 true (.fieldA 1 (.t 2)), og 29 27 true (.load none (.t 28)), og 30 27 true (.len false (.t 29)), og 31 27 true (.bin .leq (.t 30) (ci 1024)), oo 32 (.pick (.t 27) (.t 31) (.c (.bool false))), oo 33 (.mv (.t 32)), og 34 33 true (.fieldA 8 (.t 2)), og 35 33 true (.load none (.t 34)), og 36 33 true (.len false (.t 35)), og 37 33 true (.bin .leq (.t 36) (ci 32)), oo 38 (.pick (.t 33) (.t 37) (.c (.bool false))), oo 39 (.mv (.t 38)), og 40 39 true (.fieldA 10 (.t 2)), og 41 39 true (.load none (.t 40)), og 42 39 true (.len false (.t 41)), og 43 39 true (.mv (.t 1)), og 44 39 true (.bin .eql (.t 42) (.t 43)), oo 45 (.pick (.t 39) (.t 44) (.c (.bool false))), oo 4 (.asg (.t 45))]
def r_foot_right_8 := rg r_foot_right_8_o [4]
@[go_sem] theorem r_foot_right_8_u : Gr X K s r_foot_right_8 r_foot_right_8_o [4] := go_region _ _
def c_foot_right : ICode := (.seq r_foot_right_0 (.seq (.seq r_foot_right_1 (.block 0 (.loop b_foot_right_7))) (.seq r_foot_right_8 .ret)))
def i_foot_right : IFunc := ⟨2, [.t 4], c_foot_right⟩
def a_foot_right : Advice := ⟨[], [(7, [4]), (6, [1, 2, 8, 9, 10]), (5, [4]), (4, [1, 2, 8, 9, 10, 17]), (3, [1, 2, 6, 8, 9, 10]), (2, [1, 2, 8, 9, 10, 11]), (1, [1, 2, 8, 9, 10]), (0, [1, 2])], [], [(3, [6])], [], []⟩
/-! ingot/foot.Encode -/
@[go_sem] def r_foot_Encode_0_o : Ops := [
oo 1 (.box 12 (.t 0)), oo 2 (.asg (.c .nilS)), oo 3 (.asg (ci 0))]
def r_foot_Encode_0 := rg r_foot_Encode_0_o [1]
@[go_sem] theorem r_foot_Encode_0_u : Gr X K s r_foot_Encode_0 r_foot_Encode_0_o [1] := go_region _ _
@[go_sem] def r_foot_Encode_1_o : Ops := [
oo 16 (.fieldA 2 (.t 1)), oo 17 (.load (some 6) (.t 16)), oo 18 (.call false n_types_Check [(.t 17)]), oo 4 (.asg (.t 18))]
def r_foot_Encode_1 := rg r_foot_Encode_1_o [1, 4]
@[go_sem] theorem r_foot_Encode_1_u : Gr X K s r_foot_Encode_1 r_foot_Encode_1_o [1, 4] := go_region _ _
@[go_sem] def r_foot_Encode_2_o : Ops := [
oo 19 (.mv (.t 4)), oo 20 (.bin .neq (.t 19) (ci 0))]
def r_foot_Encode_2 := rg r_foot_Encode_2_o [1, 4, 20]
@[go_sem] theorem r_foot_Encode_2_u : Gr X K s r_foot_Encode_2 r_foot_Encode_2_o [1, 4, 20] := go_region _ _
@[go_sem] def r_foot_Encode_3_o : Ops := [
oo 21 (.mv (.t 4)), oo 2 (.asg (.c .nilS)), oo 3 (.asg (.t 21))]
def r_foot_Encode_3 := rg r_foot_Encode_3_o [2, 3]
@[go_sem] theorem r_foot_Encode_3_u : Gr X K s r_foot_Encode_3 r_foot_Encode_3_o [2, 3] := go_region _ _
@[go_sem] def r_foot_Encode_4_o : Ops := [
oo 22 (.fieldA 2 (.t 1)), oo 23 (.load (some 6) (.t 22)), oo 24 (.call false n_types_Flatten [(.t 23)]), oo 5 (.asg (.t 24))]
def r_foot_Encode_4 := rg r_foot_Encode_4_o [1, 5]
@[go_sem] theorem r_foot_Encode_4_u : Gr X K s r_foot_Encode_4 r_foot_Encode_4_o [1, 5] := go_region _ _
@[go_sem] def r_foot_Encode_5_o : Ops := [
oo 25 (.load (some 12) (.t 1)), oo 26 (.mv (.t 5)), oo 27 (.len false (.t 26)), oo 28 (.call false n_foot_right [(.t 25), (.t 27)]), oo 29 (.un .not (.t 28))]
def r_foot_Encode_5 := rg r_foot_Encode_5_o [1, 5, 29]
@[go_sem] theorem r_foot_Encode_5_u : Gr X K s r_foot_Encode_5 r_foot_Encode_5_o [1, 5, 29] := go_region _ _
@[go_sem] def r_foot_Encode_6_o : Ops := [
oo 2 (.asg (.c .nilS)), oo 3 (.asg (ci 1))]
def r_foot_Encode_6 := rg r_foot_Encode_6_o [2, 3]
@[go_sem] theorem r_foot_Encode_6_u : Gr X K s r_foot_Encode_6 r_foot_Encode_6_o [2, 3] := go_region _ _
@[go_sem] def r_foot_Encode_7_o : Ops := [
oo 30 (.call false n_pb_PutUint [(.c .nilS), (ci 1), (.c (.int .u64 3))]), oo 31 (.fieldA 0 (.t 1)), oo 32 (.load none (.t 31)), oo 33 (.cvInt .u64 (.t 32)), oo 34 (.call false n_pb_PutUint [(.t 30), (ci 2), (.t 33)]), oo 6 (.asg (.t 34))]
def r_foot_Encode_7_n : List (Nat × Nat) := [(0, 1), (0, 2), (0, 3)]
def r_foot_Encode_7 : ICode := .region r_foot_Encode_7_o r_foot_Encode_7_n [1, 5, 6]
@[go_sem] theorem r_foot_Encode_7_u : go X (.c r_foot_Encode_7 :: K) s = goRU X [] r_foot_Encode_7_n r_foot_Encode_7_o [1, 5, 6] K s := go_regionU' _ _ _ _
@[go_sem] def r_foot_Encode_8_o : Ops := [
oo 35 (.fieldA 1 (.t 1)), oo 36 (.load none (.t 35)), oo 37 (.len false (.t 36)), oo 38 (.mv (ci 0))]
def r_foot_Encode_8 := rg r_foot_Encode_8_o [1, 5, 6, 36, 37, 38]
@[go_sem] theorem r_foot_Encode_8_u : Gr X K s r_foot_Encode_8 r_foot_Encode_8_o [1, 5, 6, 36, 37, 38] := go_region _ _
@[go_sem] def r_foot_Encode_9_o : Ops := [
oo 39 (.bin .lss (.t 38) (.t 37))]
def r_foot_Encode_9 := rg r_foot_Encode_9_o [1, 5, 6, 36, 37, 38, 39]
@[go_sem] theorem r_foot_Encode_9_u : Gr X K s r_foot_Encode_9 r_foot_Encode_9_o [1, 5, 6, 36, 37, 38, 39] := go_region _ _
@[go_sem] def r_foot_Encode_10_o : Ops := [
oo 40 (.idxA 5 (.t 36) (.t 38)), oo 41 (.load (some 5) (.t 40)), oo 8 (.alloc [(.int .i64 0), (.int .i64 0), (.int .i64 0), (.int .i64 0), (.int .i64 0)]), ow (.store 5 (.t 8) (.t 41))]
def r_foot_Encode_10 := rg r_foot_Encode_10_o [1, 5, 6, 8, 36, 37, 38]
@[go_sem] theorem r_foot_Encode_10_u : Gr X K s r_foot_Encode_10 r_foot_Encode_10_o [1, 5, 6, 8, 36, 37, 38] := go_region _ _
@[go_sem] def r_foot_Encode_11_o : Ops := [
oo 9 (.asg (.c .nilS))]
def r_foot_Encode_11 := rg r_foot_Encode_11_o [1, 5, 6, 8, 9, 36, 37, 38]
@[go_sem] theorem r_foot_Encode_11_u : Gr X K s r_foot_Encode_11 r_foot_Encode_11_o [1, 5, 6, 8, 9, 36, 37, 38] := go_region _ _
@[go_sem] def r_foot_Encode_12_o : Ops := [
oo 42 (.load (some 5) (.t 8)), oo 43 (.call false n_foot_Stripe_numbers [(.t 42)]), oo 44 (.len false (.t 43)), oo 45 (.mv (ci 0))]
def r_foot_Encode_12 := rg r_foot_Encode_12_o [1, 5, 6, 9, 36, 37, 38, 43, 44, 45]
@[go_sem] theorem r_foot_Encode_12_u : Gr X K s r_foot_Encode_12 r_foot_Encode_12_o [1, 5, 6, 9, 36, 37, 38, 43, 44, 45] := go_region _ _
@[go_sem] def r_foot_Encode_13_o : Ops := [
oo 46 (.bin .lss (.t 45) (.t 44))]
def r_foot_Encode_13 := rg r_foot_Encode_13_o [1, 5, 6, 9, 36, 37, 38, 43, 44, 45, 46]
@[go_sem] theorem r_foot_Encode_13_u : Gr X K s r_foot_Encode_13 r_foot_Encode_13_o [1, 5, 6, 9, 36, 37, 38, 43, 44, 45, 46] := go_region _ _
@[go_sem] def r_foot_Encode_14_o : Ops := [
oo 47 (.mv (.t 45)), oo 48 (.idxA 1 (.t 43) (.t 45)), oo 49 (.load none (.t 48)), oo 10 (.asg (.t 47)), oo 11 (.asg (.t 49))]
def r_foot_Encode_14 := rg r_foot_Encode_14_o [1, 5, 6, 9, 10, 11, 36, 37, 38, 43, 44, 45]
@[go_sem] theorem r_foot_Encode_14_u : Gr X K s r_foot_Encode_14 r_foot_Encode_14_o [1, 5, 6, 9, 10, 11, 36, 37, 38, 43, 44, 45] := go_region _ _
@[go_sem] def r_foot_Encode_15_o : Ops := [
oo 50 (.mv (.t 9)), oo 51 (.mv (.t 10)), oo 52 (.bin .add (.t 51) (ci 1)), oo 53 (.mv (.t 11)), oo 54 (.cvInt .u64 (.t 53)), oo 55 (.call false n_pb_PutUint [(.t 50), (.t 52), (.t 54)]), oo 9 (.asg (.t 55))]
def r_foot_Encode_15 := rg r_foot_Encode_15_o [1, 5, 6, 9, 36, 37, 38, 43, 44, 45]
@[go_sem] theorem r_foot_Encode_15_u : Gr X K s r_foot_Encode_15 r_foot_Encode_15_o [1, 5, 6, 9, 36, 37, 38, 43, 44, 45] := go_region _ _
@[go_sem] def r_foot_Encode_16_o : Ops := [
oo 56 (.bin .add (.t 45) (ci 1)), oo 45 (.mv (.t 56))]
def r_foot_Encode_16 := rg r_foot_Encode_16_o [1, 5, 6, 9, 36, 37, 38, 43, 44, 45]
@[go_sem] theorem r_foot_Encode_16_u : Gr X K s r_foot_Encode_16 r_foot_Encode_16_o [1, 5, 6, 9, 36, 37, 38, 43, 44, 45] := go_region _ _
def b_foot_Encode_17 : ICode := (.seq r_foot_Encode_13 (.seq (.cond (.t 46) .skip (.exit 2)) (.seq (.block 3 (.seq r_foot_Encode_14 r_foot_Encode_15)) r_foot_Encode_16)))
@[go_sem] theorem b_foot_Encode_17_u : Gn X K s b_foot_Encode_17 (.seq r_foot_Encode_13 (.seq (.cond (.t 46) .skip (.exit 2)) (.seq (.block 3 (.seq r_foot_Encode_14 r_foot_Encode_15)) r_foot_Encode_16))) := rfl
@[go_sem] def r_foot_Encode_18_o : Ops := [
oo 57 (.mv (.t 6)), oo 58 (.mv (.t 9)), oo 59 (.call false n_pb_PutBytes [(.t 57), (ci 3), (.t 58)]), oo 6 (.asg (.t 59))]
def r_foot_Encode_18 := rg r_foot_Encode_18_o [1, 5, 6, 36, 37, 38]
@[go_sem] theorem r_foot_Encode_18_u : Gr X K s r_foot_Encode_18 r_foot_Encode_18_o [1, 5, 6, 36, 37, 38] := go_region _ _
@[go_sem] def r_foot_Encode_19_o : Ops := [
oo 60 (.bin .add (.t 38) (ci 1)), oo 38 (.mv (.t 60))]
def r_foot_Encode_19 := rg r_foot_Encode_19_o [1, 5, 6, 36, 37, 38]
@[go_sem] theorem r_foot_Encode_19_u : Gr X K s r_foot_Encode_19 r_foot_Encode_19_o [1, 5, 6, 36, 37, 38] := go_region _ _
def b_foot_Encode_20 : ICode := (.seq r_foot_Encode_9 (.seq (.cond (.t 39) .skip (.exit 0)) (.seq (.block 1 (.seq (.seq (.free 8) r_foot_Encode_10) (.seq r_foot_Encode_11 (.seq (.seq r_foot_Encode_12 (.block 2 (.loop b_foot_Encode_17))) r_foot_Encode_18)))) r_foot_Encode_19)))
@[go_sem] theorem b_foot_Encode_20_u : Gn X K s b_foot_Encode_20 (.seq r_foot_Encode_9 (.seq (.cond (.t 39) .skip (.exit 0)) (.seq (.block 1 (.seq (.seq (.free 8) r_foot_Encode_10) (.seq r_foot_Encode_11 (.seq (.seq r_foot_Encode_12 (.block 2 (.loop b_foot_Encode_17))) r_foot_Encode_18)))) r_foot_Encode_19))) := rfl
@[go_sem] def r_foot_Encode_21_o : Ops := [
oo 61 (.mv (.t 6)), oo 62 (.fieldA 2 (.t 1)), oo 63 (.load (some 6) (.t 62)), oo 64 (.call false n_foot_PutTypes [(.t 61), (.t 63)]), oo 6 (.asg (.t 64))]
def r_foot_Encode_21 := rg r_foot_Encode_21_o [1, 5, 6]
@[go_sem] theorem r_foot_Encode_21_u : Gr X K s r_foot_Encode_21 r_foot_Encode_21_o [1, 5, 6] := go_region _ _
@[go_sem] def r_foot_Encode_22_o : Ops := [
oo 65 (.fieldA 8 (.t 1)), oo 66 (.load none (.t 65)), oo 67 (.len false (.t 66)), oo 68 (.mv (ci 0))]
def r_foot_Encode_22 := rg r_foot_Encode_22_o [1, 5, 6, 66, 67, 68]
@[go_sem] theorem r_foot_Encode_22_u : Gr X K s r_foot_Encode_22 r_foot_Encode_22_o [1, 5, 6, 66, 67, 68] := go_region _ _
@[go_sem] def r_foot_Encode_23_o : Ops := [
oo 69 (.bin .lss (.t 68) (.t 67))]
def r_foot_Encode_23 := rg r_foot_Encode_23_o [1, 5, 6, 66, 67, 68, 69]
@[go_sem] theorem r_foot_Encode_23_u : Gr X K s r_foot_Encode_23 r_foot_Encode_23_o [1, 5, 6, 66, 67, 68, 69] := go_region _ _
@[go_sem] def r_foot_Encode_24_o : Ops := [
oo 70 (.idxA 2 (.t 66) (.t 68)), oo 71 (.load (some 2) (.t 70)), oo 13 (.alloc [(.str []), .nilS]), ow (.store 2 (.t 13) (.t 71))]
def r_foot_Encode_24 := rg r_foot_Encode_24_o [1, 5, 6, 13, 66, 67, 68]
@[go_sem] theorem r_foot_Encode_24_u : Gr X K s r_foot_Encode_24 r_foot_Encode_24_o [1, 5, 6, 13, 66, 67, 68] := go_region _ _
@[go_sem] def r_foot_Encode_25_o : Ops := [
oo 72 (.mv (.t 6)), oo 73 (.fieldA 0 (.t 13)), oo 74 (.load none (.t 73)), oo 75 (.s2b false (.t 74)), oo 76 (.call false n_pb_PutBytes [(.c .nilS), (ci 1), (.t 75)]), oo 77 (.fieldA 1 (.t 13)), oo 78 (.load none (.t 77)), oo 79 (.call false n_pb_PutBytes [(.t 76), (ci 2), (.t 78)]), oo 80 (.call false n_pb_PutBytes [(.t 72), (ci 5), (.t 79)]), oo 6 (.asg (.t 80))]
def r_foot_Encode_25_n : List (Nat × Nat) := [(0, 1), (0, 2), (0, 3), (0, 4), (0, 5), (1, 5), (2, 5), (3, 5), (4, 5), (0, 6), (1, 6), (2, 6), (3, 6), (4, 6), (0, 7)]
def r_foot_Encode_25 : ICode := .region r_foot_Encode_25_o r_foot_Encode_25_n [1, 5, 6, 66, 67, 68]
@[go_sem] theorem r_foot_Encode_25_u : go X (.c r_foot_Encode_25 :: K) s = goRU X [] r_foot_Encode_25_n r_foot_Encode_25_o [1, 5, 6, 66, 67, 68] K s := go_regionU' _ _ _ _
@[go_sem] def r_foot_Encode_26_o : Ops := [
oo 81 (.bin .add (.t 68) (ci 1)), oo 68 (.mv (.t 81))]
def r_foot_Encode_26 := rg r_foot_Encode_26_o [1, 5, 6, 66, 67, 68]
@[go_sem] theorem r_foot_Encode_26_u : Gr X K s r_foot_Encode_26 r_foot_Encode_26_o [1, 5, 6, 66, 67, 68] := go_region _ _
def b_foot_Encode_27 : ICode := (.seq r_foot_Encode_23 (.seq (.cond (.t 69) .skip (.exit 4)) (.seq (.block 5 (.seq (.seq (.free 13) r_foot_Encode_24) r_foot_Encode_25)) r_foot_Encode_26)))
@[go_sem] theorem b_foot_Encode_27_u : Gn X K s b_foot_Encode_27 (.seq r_foot_Encode_23 (.seq (.cond (.t 69) .skip (.exit 4)) (.seq (.block 5 (.seq (.seq (.free 13) r_foot_Encode_24) r_foot_Encode_25)) r_foot_Encode_26))) := rfl
@[go_sem] def r_foot_Encode_28_o : Ops := [
oo 82 (.mv (.t 6)), oo 83 (.fieldA 9 (.t 1)), oo 84 (.load none (.t 83)), oo 85 (.cvInt .u64 (.t 84)), oo 86 (.call false n_pb_PutUint [(.t 82), (ci 6), (.t 85)]), oo 6 (.asg (.t 86))]
def r_foot_Encode_28 := rg r_foot_Encode_28_o [1, 5, 6]
@[go_sem] theorem r_foot_Encode_28_u : Gr X K s r_foot_Encode_28 r_foot_Encode_28_o [1, 5, 6] := go_region _ _
@[go_sem] def r_foot_Encode_29_o : Ops := [
oo 87 (.fieldA 10 (.t 1)), oo 88 (.load none (.t 87)), oo 89 (.len false (.t 88)), oo 90 (.mv (ci 0))]
def r_foot_Encode_29 := rg r_foot_Encode_29_o [1, 5, 6, 88, 89, 90]
@[go_sem] theorem r_foot_Encode_29_u : Gr X K s r_foot_Encode_29 r_foot_Encode_29_o [1, 5, 6, 88, 89, 90] := go_region _ _
@[go_sem] def r_foot_Encode_30_o : Ops := [
oo 91 (.bin .lss (.t 90) (.t 89))]
def r_foot_Encode_30 := rg r_foot_Encode_30_o [1, 5, 6, 88, 89, 90, 91]
@[go_sem] theorem r_foot_Encode_30_u : Gr X K s r_foot_Encode_30 r_foot_Encode_30_o [1, 5, 6, 88, 89, 90, 91] := go_region _ _
@[go_sem] def r_foot_Encode_31_o : Ops := [
oo 92 (.mv (.t 90)), oo 93 (.idxA 15 (.t 88) (.t 90)), oo 94 (.load (some 15) (.t 93)), oo 15 (.alloc [(.int .i64 0), (.bool false), (.bool false), (.bool false), (.int .i64 0), (.int .i64 0), .nilS, .nilS, (.bool false), (.int .i64 0), (.int .i64 0), .nilS, .nilS, (.bool false), (.int .i64 0)]), oo 14 (.asg (.t 92)), ow (.store 15 (.t 15) (.t 94))]
def r_foot_Encode_31 := rg r_foot_Encode_31_o [1, 5, 6, 14, 15, 88, 89, 90]
@[go_sem] theorem r_foot_Encode_31_u : Gr X K s r_foot_Encode_31 r_foot_Encode_31_o [1, 5, 6, 14, 15, 88, 89, 90] := go_region _ _
@[go_sem] def r_foot_Encode_32_o : Ops := [
oo 95 (.mv (.t 6)), oo 96 (.mv (.t 5)), oo 97 (.mv (.t 14)), oo 98 (.idxA 8 (.t 96) (.t 97)), oo 99 (.load (some 8) (.t 98)), oo 100 (.load (some 15) (.t 15)), oo 101 (.call false n_foot_PutStats [(.t 99), (.t 100)]), oo 102 (.call false n_pb_PutBytes [(.t 95), (ci 7), (.t 101)]), oo 6 (.asg (.t 102))]
def r_foot_Encode_32_n : List (Nat × Nat) := [(0, 1), (0, 2), (1, 2), (0, 3), (0, 4), (0, 5), (1, 5), (2, 5), (3, 5), (4, 5), (0, 6)]
def r_foot_Encode_32 : ICode := .region r_foot_Encode_32_o r_foot_Encode_32_n [1, 5, 6, 88, 89, 90]
@[go_sem] theorem r_foot_Encode_32_u : go X (.c r_foot_Encode_32 :: K) s = goRU X [] r_foot_Encode_32_n r_foot_Encode_32_o [1, 5, 6, 88, 89, 90] K s := go_regionU' _ _ _ _
@[go_sem] def r_foot_Encode_33_o : Ops := [
oo 103 (.bin .add (.t 90) (ci 1)), oo 90 (.mv (.t 103))]
def r_foot_Encode_33 := rg r_foot_Encode_33_o [1, 5, 6, 88, 89, 90]
@[go_sem] theorem r_foot_Encode_33_u : Gr X K s r_foot_Encode_33 r_foot_Encode_33_o [1, 5, 6, 88, 89, 90] := go_region _ _
def b_foot_Encode_34 : ICode := (.seq r_foot_Encode_30 (.seq (.cond (.t 91) .skip (.exit 6)) (.seq (.block 7 (.seq (.seq (.free 15) r_foot_Encode_31) r_foot_Encode_32)) r_foot_Encode_33)))
@[go_sem] theorem b_foot_Encode_34_u : Gn X K s b_foot_Encode_34 (.seq r_foot_Encode_30 (.seq (.cond (.t 91) .skip (.exit 6)) (.seq (.block 7 (.seq (.seq (.free 15) r_foot_Encode_31) r_foot_Encode_32)) r_foot_Encode_33))) := rfl
@[go_sem] def r_foot_Encode_35_o : Ops := [
oo 104 (.mv (.t 6)), oo 105 (.fieldA 11 (.t 1)), oo 106 (.load none (.t 105)), oo 107 (.cvInt .u64 (.t 106)), oo 108 (.call false n_pb_PutUint [(.t 104), (ci 8), (.t 107)]), oo 6 (.asg (.t 108))]
def r_foot_Encode_35 := rg r_foot_Encode_35_o [6]
@[go_sem] theorem r_foot_Encode_35_u : Gr X K s r_foot_Encode_35 r_foot_Encode_35_o [6] := go_region _ _
@[go_sem] def r_foot_Encode_36_o : Ops := [
oo 109 (.mv (.t 6)), oo 110 (.len false (.t 109)), oo 111 (.bin .gtr (.t 110) (ci 65536))]
def r_foot_Encode_36 := rg r_foot_Encode_36_o [6, 111]
@[go_sem] theorem r_foot_Encode_36_u : Gr X K s r_foot_Encode_36 r_foot_Encode_36_o [6, 111] := go_region _ _
@[go_sem] def r_foot_Encode_37_o : Ops := [
oo 2 (.asg (.c .nilS)), oo 3 (.asg (ci 4))]
def r_foot_Encode_37 := rg r_foot_Encode_37_o [2, 3]
@[go_sem] theorem r_foot_Encode_37_u : Gr X K s r_foot_Encode_37 r_foot_Encode_37_o [2, 3] := go_region _ _
@[go_sem] def r_foot_Encode_38_o : Ops := [
oo 112 (.mv (.t 6)), oo 2 (.asg (.t 112)), oo 3 (.asg (ci 0))]
def r_foot_Encode_38 := rg r_foot_Encode_38_o [2, 3]
@[go_sem] theorem r_foot_Encode_38_u : Gr X K s r_foot_Encode_38 r_foot_Encode_38_o [2, 3] := go_region _ _
def c_foot_Encode : ICode := (.seq r_foot_Encode_0 (.seq (.seq r_foot_Encode_1 (.seq r_foot_Encode_2 (.cond (.t 20) (.seq r_foot_Encode_3 .ret) .skip))) (.seq r_foot_Encode_4 (.seq r_foot_Encode_5 (.cond (.t 29) (.seq r_foot_Encode_6 .ret) (.seq r_foot_Encode_7 (.seq (.seq r_foot_Encode_8 (.block 0 (.loop b_foot_Encode_20))) (.seq r_foot_Encode_21 (.seq (.seq r_foot_Encode_22 (.block 4 (.loop b_foot_Encode_27))) (.seq r_foot_Encode_28 (.seq (.seq r_foot_Encode_29 (.block 6 (.loop b_foot_Encode_34))) (.seq r_foot_Encode_35 (.seq r_foot_Encode_36 (.cond (.t 111) (.seq r_foot_Encode_37 .ret) (.seq r_foot_Encode_38 .ret)))))))))))))))
def i_foot_Encode : IFunc := ⟨1, [.t 2, .t 3], c_foot_Encode⟩
def a_foot_Encode : Advice := ⟨[], [(34, [2, 3]), (33, [2, 3]), (32, [6, 111]), (31, [6]), (30, [1, 5, 6, 88, 89, 90]), (29, [1, 5, 6, 88, 89, 90]), (28, [1, 5, 6, 14, 15, 88, 89, 90]), (27, [1, 5, 6, 88, 89, 90, 91]), (26, [1, 5, 6, 88, 89, 90]), (25, [1, 5, 6]), (24, [1, 5, 6, 66, 67, 68]), (23, [1, 5, 6, 66, 67, 68]), (22, [1, 5, 6, 13, 66, 67, 68]), (21, [1, 5, 6, 66, 67, 68, 69]), (20, [1, 5, 6, 66, 67, 68]), (19, [1, 5, 6]), (18, [1, 5, 6, 36, 37, 38]), (17, [1, 5, 6, 36, 37, 38]), (16, [1, 5, 6, 9, 36, 37, 38, 43, 44, 45]), (15, [1, 5, 6, 9, 36, 37, 38, 43, 44, 45]), (14, [1, 5, 6, 9, 10, 11, 36, 37, 38, 43, 44, 45]), (13, [1, 5, 6, 9, 36, 37, 38, 43, 44, 45, 46]), (12, [1, 5, 6, 9, 36, 37, 38, 43, 44, 45]), (11, [1, 5, 6, 8, 9, 36, 37, 38]), (10, [1, 5, 6, 8, 36, 37, 38]), (9, [1, 5, 6, 36, 37, 38, 39]), (8, [1, 5, 6, 36, 37, 38]), (7, [1, 5, 6]), (6, [2, 3]), (5, [1, 5, 29]), (4, [1, 5]), (3, [2, 3]), (2, [1, 4, 20]), (1, [1, 4]), (0, [1])], [], [(10, [8]), (22, [13]), (28, [15])], [], []⟩
/-! ingot/ingotlaw21.known -/
@[go_sem] def r_ingotlaw21_known_0_o : Ops := [
oo 0 (.asg (.c (.bool false)))]
def r_ingotlaw21_known_0 := rg r_ingotlaw21_known_0_o []
@[go_sem] theorem r_ingotlaw21_known_0_u : Gr X K s r_ingotlaw21_known_0 r_ingotlaw21_known_0_o [] := go_region _ _
@[go_sem] def r_ingotlaw21_known_1_o : Ops := [
oo 10 (.lit false 1 1 (.str []) [(0, (.c (.str [97])))]), oo 11 (.build [(.int .i64 0), .nilS, .nilS, (.int .i64 0), (.int .i64 0), (.int .i64 0)] [(0, 1, (ci 3))]), oo 12 (.lit false 6 1 (.agg [(.int .i64 0), (.sl []), (.sl []), (.int .i64 0), (.int .i64 0), (.int .i64 0)]) [(0, (.t 11))]), oo 13 (.build [(.int .i64 0), .nilS, .nilS, (.int .i64 0), (.int .i64 0), (.int .i64 0)] [(0, 1, (ci 12)), (1, 1, (.t 10)), (2, 1, (.t 12))]), oo 1 (.alloc [(.int .i64 0), .nilS, .nilS, (.int .i64 0), (.int .i64 0), (.int .i64 0)]), ow (.store 6 (.t 1) (.t 13))]
def r_ingotlaw21_known_1 := rg r_ingotlaw21_known_1_o [1]
@[go_sem] theorem r_ingotlaw21_known_1_u : Gr X K s r_ingotlaw21_known_1 r_ingotlaw21_known_1_o [1] := go_region _ _
@[go_sem] def r_ingotlaw21_known_2_o : Ops := [
oo 14 (.load (some 6) (.t 1)), oo 15 (.call false n_types_Flatten [(.t 14)]), oo 2 (.asg (.t 15))]
def r_ingotlaw21_known_2 := rg r_ingotlaw21_known_2_o [1, 2]
@[go_sem] theorem r_ingotlaw21_known_2_u : Gr X K s r_ingotlaw21_known_2 r_ingotlaw21_known_2_o [1, 2] := go_region _ _
@[go_sem] def r_ingotlaw21_known_3_o : Ops := [
oo 16 (.mv (.t 2)), oo 17 (.len false (.t 16)), oo 18 (.bin .neq (.t 17) (ci 2))]
def r_ingotlaw21_known_3 := rg r_ingotlaw21_known_3_o [1, 2, 18]
@[go_sem] theorem r_ingotlaw21_known_3_u : Gr X K s r_ingotlaw21_known_3 r_ingotlaw21_known_3_o [1, 2, 18] := go_region _ _
@[go_sem] def r_ingotlaw21_known_4_o : Ops := [
oo 0 (.asg (.c (.bool false)))]
def r_ingotlaw21_known_4 := rg r_ingotlaw21_known_4_o [0]
@[go_sem] theorem r_ingotlaw21_known_4_u : Gr X K s r_ingotlaw21_known_4 r_ingotlaw21_known_4_o [0] := go_region _ _
@[go_sem] def r_ingotlaw21_known_5_o : Ops := [
oo 19 (.build [(.bool false), (.int .i64 0), (.int .i64 0), .nilS, .nilS] [(1, 1, (ci 5))]), oo 20 (.build [(.bool false), (.int .i64 0), (.int .i64 0), .nilS, .nilS] [(1, 1, (ci 5))]), oo 21 (.build [(.int .i64 0), (.bool false), (.bool false), (.bool false), (.int .i64 0), (.int .i64 0), .nilS, .nilS, (.bool false), (.int .i64 0), (.int .i64 0), .nilS, .nilS, (.bool false), (.int .i64 0)] [(0, 1, (ci 1)), (2, 1, (.c (.bool true))), (3, 5, (.t 19)), (8, 5, (.t 20)), (13, 1, (.c (.bool true))), (14, 1, (ci 5))]), oo 3 (.alloc [(.int .i64 0), (.bool false), (.bool false), (.bool false), (.int .i64 0), (.int .i64 0), .nilS, .nilS, (.bool false), (.int .i64 0), (.int .i64 0), .nilS, .nilS, (.bool false), (.int .i64 0)]), ow (.store 15 (.t 3) (.t 21))]
def r_ingotlaw21_known_5 := rg r_ingotlaw21_known_5_o [1, 2, 3]
@[go_sem] theorem r_ingotlaw21_known_5_u : Gr X K s r_ingotlaw21_known_5 r_ingotlaw21_known_5_o [1, 2, 3] := go_region _ _
@[go_sem] def r_ingotlaw21_known_6_o : Ops := [
oo 23 (.build [(.int .i64 0), (.int .i64 0), (.int .i64 0), (.int .i64 0), (.int .i64 0)] [(0, 1, (ci 3)), (4, 1, (ci 1))]), oo 24 (.lit false 5 1 (.agg [(.int .i64 0), (.int .i64 0), (.int .i64 0), (.int .i64 0), (.int .i64 0)]) [(0, (.t 23))]), oo 25 (.load (some 6) (.t 1)), oo 26 (.lit true 1 1 (.int .u8 0) [(0, (.c (.int .u8 118)))]), oo 27 (.cvB false (.t 26)), oo 28 (.build [(.str []), .nilS] [(0, 1, (.c (.str [107]))), (1, 1, (.t 27))]), oo 29 (.lit false 2 1 (.agg [(.str []), (.sl [])]) [(0, (.t 28))]), oo 30 (.build [(.int .i64 0), (.bool false), (.bool false), (.bool false), (.int .i64 0), (.int .i64 0), .nilS, .nilS, (.bool false), (.int .i64 0), (.int .i64 0), .nilS, .nilS, (.bool false), (.int .i64 0)] [(0, 1, (ci 1))]), oo 31 (.load (some 15) (.t 3)), oo 32 (.lit false 15 2 (.agg [(.int .i64 0), (.bool false), (.bool false), (.bool false), (.int .i64 0), (.int .i64 0), (.sl []), (.sl []), (.bool false), (.int .i64 0), (.int .i64 0), (.sl []), (.sl []), (.bool false), (.int .i64 0)]) [(0, (.t 30)), (1, (.t 31))]), oo 33 (.build [(.int .i64 0), .nilS, (.int .i64 0), .nilS, .nilS, (.int .i64 0), (.int .i64 0), (.int .i64 0), .nilS, (.int .i64 0), .nilS, (.int .i64 0)] [(0, 1, (ci 7)), (1, 1, (.t 24)), (2, 6, (.t 25)), (8, 1, (.t 29)), (9, 1, (ci 1)), (10, 1, (.t 32)), (11, 1, (ci 10))]), oo 34 (.call false n_foot_Encode [(.t 33)]), oo 22 (.mv (.t 34)), oo 35 (.ext (.t 22) 0), oo 36 (.ext (.t 22) 1), oo 4 (.asg (.t 35)), oo 5 (.asg (.t 36))]
def r_ingotlaw21_known_6 := rg r_ingotlaw21_known_6_o [1, 2, 3, 4, 5]
@[go_sem] theorem r_ingotlaw21_known_6_u : Gr X K s r_ingotlaw21_known_6 r_ingotlaw21_known_6_o [1, 2, 3, 4, 5] := go_region _ _
@[go_sem] def r_ingotlaw21_known_7_o : Ops := [
oo 38 (.mv (.t 4)), oo 39 (.call false n_foot_Decode [(.t 38)]), oo 37 (.mv (.t 39)), oo 40 (.ext (.t 37) 0), oo 41 (.ext (.t 37) 1), oo 6 (.alloc [(.int .i64 0), .nilS, (.int .i64 0), .nilS, .nilS, (.int .i64 0), (.int .i64 0), (.int .i64 0), .nilS, (.int .i64 0), .nilS, (.int .i64 0)]), ow (.store 12 (.t 6) (.t 40)), oo 7 (.asg (.t 41))]
def r_ingotlaw21_known_7 := rg r_ingotlaw21_known_7_o [1, 2, 3, 5, 6, 7]
@[go_sem] theorem r_ingotlaw21_known_7_u : Gr X K s r_ingotlaw21_known_7 r_ingotlaw21_known_7_o [1, 2, 3, 5, 6, 7] := go_region _ _
@[go_sem] def r_ingotlaw21_known_8_o : Ops := [
oo 43 (.mv (.t 2)), oo 44 (.idxA 8 (.t 43) (ci 1)), oo 45 (.load (some 8) (.t 44)), oo 46 (.mv (.t 2)), oo 47 (.idxA 8 (.t 46) (ci 1)), oo 48 (.load (some 8) (.t 47)), oo 49 (.load (some 15) (.t 3)), oo 50 (.call false n_foot_PutStats [(.t 48), (.t 49)]), oo 51 (.call false n_foot_ReadStats [(.t 45), (.t 50)]), oo 42 (.mv (.t 51)), oo 52 (.ext (.t 42) 0), oo 53 (.ext (.t 42) 1), oo 8 (.alloc [(.int .i64 0), (.bool false), (.bool false), (.bool false), (.int .i64 0), (.int .i64 0), .nilS, .nilS, (.bool false), (.int .i64 0), (.int .i64 0), .nilS, .nilS, (.bool false), (.int .i64 0)]), ow (.store 15 (.t 8) (.t 52)), oo 9 (.asg (.t 53))]
def r_ingotlaw21_known_8_n : List (Nat × Nat) := [(0, 3), (1, 3), (2, 3), (0, 4), (1, 4), (2, 4), (0, 5), (1, 5), (2, 5), (0, 6), (1, 6), (2, 6), (3, 6), (4, 6), (5, 6), (0, 7), (1, 7), (2, 7), (10, 11), (0, 12), (1, 12), (2, 12), (3, 12), (4, 12), (5, 12), (6, 12), (7, 12), (8, 12), (9, 12), (10, 12), (11, 12), (11, 13)]
def r_ingotlaw21_known_8 : ICode := .region r_ingotlaw21_known_8_o r_ingotlaw21_known_8_n [1, 3, 5, 6, 7, 8, 9]
@[go_sem] theorem r_ingotlaw21_known_8_u : go X (.c r_ingotlaw21_known_8 :: K) s = goRU X [] r_ingotlaw21_known_8_n r_ingotlaw21_known_8_o [1, 3, 5, 6, 7, 8, 9] K s := go_regionU' _ _ _ _
@[go_sem] def r_ingotlaw21_known_9_o : Ops := [
oo 54 (.mv (.t 5)), oo 55 (.mv (.t 7)), oo 56 (.bin .add (.t 54) (.t 55)), oo 57 (.mv (.t 9)), oo 58 (.bin .add (.t 56) (.t 57)), oo 59 (.bin .eql (.t 58) (ci 0)), oo 60 (.mv (.t 59)), og 61 60 true (.fieldA 0 (.t 6)), og 62 60 true (.load none (.t 61)), og 63 60 true (.bin .eql (.t 62) (ci 7)), oo 64 (.pick (.t 60) (.t 63) (.c (.bool false))), oo 65 (.mv (.t 64)), og 66 65 true (.fieldA 1 (.t 6)), og 67 65 true (.load none (.t 66)), og 68 65 true (.len false (.t 67)), og 69 65 true (.bin .eql (.t 68) (ci 1)), oo 70 (.pick (.t 65) (.t 69) (.c (.bool false))), oo 71 (.mv (.t 70)), og 72 71 true (.fieldA 1 (.t 6)), og 73 71 true (.load none (.t 72)), og 74 71 true (.idxA 5 (.t 73) (ci 0)), og 75 71 true (.fieldA 0 (.t 74)), og 76 71 true (.load none (.t 75)), og 77 71 true (.bin .eql (.t 76) (ci 3)), oo 78 (.pick (.t 71) (.t 77) (.c (.bool false))), oo 79 (.mv (.t 78)), og 80 79 true (.fieldA 2 (.t 6)), og 81 79 true (.load (some 6) (.t 80)), og 82 79 true (.load (some 6) (.t 1)), og 83 79 true (.call false n_ingotref13_Same [(.t 81), (.t 82)]), oo 84 (.pick (.t 79) (.t 83) (.c (.bool false))), oo 85 (.mv (.t 84)), og 86 85 true (.fieldA 8 (.t 6)), og 87 85 true (.load none (.t 86)), og 88 85 true (.len false (.t 87)), og 89 85 true (.bin .eql (.t 88) (ci 1)), oo 90 (.pick (.t 85) (.t 89) (.c (.bool false))), oo 91 (.mv (.t 90)), og 92 91 true (.fieldA 9 (.t 6)), og 93 91 true (.load none (.t 92)), og 94 91 true (.bin .eql (.t 93) (ci 1)), oo 95 (.pick (.t 91) (.t 94) (.c (.bool false))), oo 96 (.mv (.t 95)), og 97 96 true (.fieldA 10 (.t 6)), og 98 96 true (.load none (.t 97)), og 99 96 true (.len false (.t 98)), og 100 96 true (.bin .eql (.t 99) (ci 2)), oo 101 (.pick (.t 96) (.t 100) (.c (.bool false))), oo 102 (.mv (.t 101)), og 103 102 true (.fieldA 10 (.t 6)), og 104 102 true (.load none (.t 103)), og 105 102 true (.idxA 15 (.t 104) (ci 1)), og 106 102 true (.fieldA 8 (.t 105)), og 107 102 true (.fieldA 1 (.t 106)), og 108 102 true (.load none (.t 107)), og 109 102 true (.bin .eql (.t 108) (ci 5)), oo 110 (.pick (.t 102) (.t 109) (.c (.bool false))), oo 111 (.mv (.t 110)), og 112 111 true (.fieldA 11 (.t 6)), og 113 111 true (.load none (.t 112)), og 114 111 true (.bin .eql (.t 113) (ci 10)), oo 115 (.pick (.t 111) (.t 114) (.c (.bool false))), oo 116 (.mv (.t 115)), og 117 116 true (.load (some 15) (.t 8)), og 118 116 true (.load (some 15) (.t 3)), og 119 116 true (.call false n_stat_Same [(.t 117), (.t 118)]), oo 120 (.pick (.t 116) (.t 119) (.c (.bool false))), oo 0 (.asg (.t 120))]
def r_ingotlaw21_known_9 := rg r_ingotlaw21_known_9_o [0]
@[go_sem] theorem r_ingotlaw21_known_9_u : Gr X K s r_ingotlaw21_known_9 r_ingotlaw21_known_9_o [0] := go_region _ _
def c_ingotlaw21_known : ICode := (.seq r_ingotlaw21_known_0 (.seq r_ingotlaw21_known_1 (.seq r_ingotlaw21_known_2 (.seq r_ingotlaw21_known_3 (.cond (.t 18) (.seq r_ingotlaw21_known_4 .ret) (.seq r_ingotlaw21_known_5 (.seq r_ingotlaw21_known_6 (.seq r_ingotlaw21_known_7 (.seq r_ingotlaw21_known_8 (.seq r_ingotlaw21_known_9 .ret))))))))))
def i_ingotlaw21_known : IFunc := ⟨0, [.t 0], c_ingotlaw21_known⟩
def a_ingotlaw21_known : Advice := ⟨[26], [(9, [0]), (8, [1, 3, 5, 6, 7, 8, 9]), (7, [1, 2, 3, 5, 6, 7]), (6, [1, 2, 3, 4, 5]), (5, [1, 2, 3]), (4, [0]), (3, [1, 2, 18]), (2, [1, 2]), (1, [1]), (0, [])], [], [], [], []⟩
/-! the tables -/
def tbl : List (FuncId × IFunc) := [(n_ingotlaw21_FootTwice, i_ingotlaw21_FootTwice), (n_ingotlaw21_FootPairs, i_ingotlaw21_FootPairs), (n_ingotref21_PutTypes, i_ingotref21_PutTypes), (n_ingotref3_PutBytes, i_ingotref3_PutBytes), (n_ingotref1_Zig, i_ingotref1_Zig), (n_ingotref1_PutVar, i_ingotref1_PutVar), (n_ingotref3_may, i_ingotref3_may), (n_ingotref3_PutUint, i_ingotref3_PutUint), (n_ingotref1_Zag, i_ingotref1_Zag), (n_ingotref1_Var, i_ingotref1_Var), (n_nums_Zag, i_nums_Zag), (n_foot_parts_known, i_foot_parts_known), (n_pb_Text, i_pb_Text), (n_foot_parts_pairs, i_foot_parts_pairs), (n_foot_parts_tree, i_foot_parts_tree), (n_foot_parts_stripes, i_foot_parts_stripes), (n_pb_last, i_pb_last), (n_pb_Uint, i_pb_Uint), (n_foot_number, i_foot_number), (n_foot_split, i_foot_split), (n_nums_Var, i_nums_Var), (n_pb_field, i_pb_field), (n_pb_Parse, i_pb_Parse), (n_foot_Decode, i_foot_Decode), (n_nums_Zig, i_nums_Zig), (n_foot_PutTypes, i_foot_PutTypes), (n_pb_PutBytes, i_pb_PutBytes), (n_nums_PutVar, i_nums_PutVar), (n_slices_Clone_Sbyte_byte, i_slices_Clone_Sbyte_byte), (n_pb_head, i_pb_head), (n_pb_PutUint, i_pb_PutUint), (n_foot_right, i_foot_right), (n_foot_Encode, i_foot_Encode), (n_ingotlaw21_known, i_ingotlaw21_known)]
def clips : List FuncId := [124, 123, 166, 165, 130, 120, 83, 85, 34, 81, 79]
noncomputable def tab : List AF := [⟨28, Tryz.f28, ⟨[], [(20, [4]), (15, [2, 3, 7]), (19, [4]), (18, [2, 3, 7, 184]), (17, [2, 3, 7, 8, 9]), (16, [2, 3, 7, 8]), (14, [2, 3, 7, 123]), (13, [2, 3, 7]), (10, [2, 3, 6]), (12, [4]), (11, [2, 3, 6, 118]), (9, [2, 3, 6, 86]), (8, [2, 3, 6]), (5, [2, 3, 5]), (7, [4]), (6, [2, 3, 5, 81]), (4, [2, 3, 5, 68]), (3, [2, 3, 5]), (2, [4]), (1, [2, 3, 63]), (0, [2, 3])], [], [(16, [8]), (17, [9])], [], []⟩⟩,
⟨74, Tryz.f74, ⟨[], [(1, [2]), (0, [0])], [], [], [], []⟩⟩,
⟨25, Tryz.f25, ⟨[98, 102, 137, 140, 144, 160, 168, 173, 193, 198], [(36, [2, 3]), (35, [2, 3]), (34, [8, 201]), (33, [8]), (31, [1, 4, 8, 14]), (32, [1, 4, 8, 14]), (30, [1, 4, 8, 14, 178]), (29, [1, 4, 8, 14]), (28, [1, 4, 8]), (26, [1, 4, 8, 13]), (27, [1, 4, 8, 13]), (25, [1, 4, 8, 13, 149]), (24, [1, 4, 8, 13]), (23, [1, 4, 8]), (15, [1, 4, 8, 9]), (22, [1, 4, 8, 9]), (20, [1, 4, 8, 9, 10, 11, 12]), (21, [1, 4, 8, 9, 10, 11, 12]), (19, [1, 4, 8, 9, 10, 11, 12, 116]), (18, [1, 4, 8, 9, 10, 11, 12]), (17, [1, 4, 8, 9, 10, 11]), (16, [1, 4, 8, 9, 10]), (14, [1, 4, 8, 9, 107]), (13, [1, 4, 8, 9]), (12, [1, 4, 8]), (11, [2, 3]), (10, [1, 4, 97]), (7, [1, 4, 5, 6]), (9, [1, 4, 5, 6]), (8, [1, 4, 6, 7]), (6, [1, 4, 5, 6, 65]), (5, [1, 4, 5, 6]), (4, [1, 4, 5]), (3, [1, 4]), (2, [2, 3]), (1, [1, 18]), (0, [1])], [], [(8, [7]), (16, [10])], [(98, 0), (102, 0), (137, 0), (140, 0), (144, 0), (160, 0), (167, 0), (168, 0), (173, 0), (193, 0), (198, 0)], []⟩⟩,
⟨24, Tryz.f24, ⟨[44, 62], [(11, [2]), (9, [1, 2, 3, 6]), (10, [1, 2, 3, 6]), (8, [1, 2, 3, 6, 50]), (7, [1, 2, 3, 6]), (4, [1, 2, 3, 4]), (6, [1, 2, 3, 4]), (5, [1, 2, 3, 4, 5]), (3, [1, 2, 3, 4, 22]), (2, [1, 2, 3, 4]), (1, [1, 2, 3]), (0, [1, 2])], [], [(5, [5])], [], []⟩⟩,
⟨6, Tryz.f6, ⟨[60, 81, 84, 87, 92], [(17, [8]), (16, [9, 15, 16]), (15, [9, 14]), (14, [1, 2, 9, 12, 14]), (13, [8]), (12, [1, 2, 3, 9, 12, 13, 76]), (11, [1, 2, 3, 4, 9, 10, 12, 13]), (9, [1, 2, 3, 4, 9, 10, 11]), (10, [1, 2, 3, 4, 9, 10, 11]), (8, [1, 2, 3, 4, 9, 10, 11, 47]), (7, [1, 2, 3, 4, 9, 10, 11]), (6, [1, 2, 3, 4, 9, 10]), (5, [1, 2, 3, 4, 9]), (4, [8]), (3, [1, 2, 3, 4, 39]), (2, [8]), (1, [1, 2, 3, 4, 18]), (0, [1, 2, 3, 4])], [(16, [14])], [], [(81, 0), (84, 0), (91, 0)], []⟩⟩,
⟨73, Tryz.f73, ⟨[20, 39], [(9, [8]), (5, [0, 3, 5, 9, 10]), (8, [0, 3, 5, 9, 10]), (7, [0, 3, 5, 9, 10, 11]), (6, [0, 3, 5, 9, 10, 11]), (4, [0, 3, 5, 9, 10, 25]), (3, [0, 3, 5, 9, 10]), (2, [0, 3, 5, 9]), (1, [0, 2, 3, 5, 9]), (0, [0, 2, 3, 5])], [], [], [(39, 0)], []⟩⟩,
⟨23, Tryz.f23, ⟨[7], [(3, [2]), (2, [2]), (1, [1, 5]), (0, [1])], [], [], [(7, 0)], []⟩⟩,
⟨4, Tryz.f4, ⟨[20, 26, 28], [(5, [4]), (4, [4]), (3, [1, 2, 19]), (2, [4]), (1, [1, 2, 6]), (0, [1, 2])], [], [], [(30, 0)], []⟩⟩,
⟨62, Tryz.f62, ⟨[], [(8, [4]), (7, [4]), (6, [5, 32]), (5, [0, 5]), (4, [0, 1, 5, 16]), (3, [0, 1, 5]), (2, [0, 1, 5, 12]), (1, [0, 1, 5]), (0, [0, 1])], [], [], [], []⟩⟩,
⟨60, Tryz.f60, ⟨[11], [(1, [6]), (0, [0, 1, 2])], [], [], [(11, 0)], []⟩⟩,
⟨18, Tryz.f18, ⟨[12, 23, 27, 33, 44, 48, 54, 66, 81, 89, 99, 110, 114, 124, 135, 139, 145, 150, 164, 169], [(44, [4]), (43, [5, 8]), (42, [5, 8, 166]), (41, [3, 5, 8]), (40, [3, 5]), (39, [3, 5, 6, 7, 160]), (9, [3, 5, 6, 7]), (8, [3, 5, 6, 7, 29]), (7, [3, 5, 6, 7]), (6, [3, 5, 6, 7, 18]), (5, [3, 5, 6, 7]), (15, [3, 5, 6, 7]), (14, [3, 5, 6, 7, 50]), (13, [3, 5, 6, 7]), (12, [3, 5, 6, 7, 39]), (11, [3, 5, 6, 7]), (19, [3, 5, 6, 7]), (18, [3, 5, 6, 7, 60]), (17, [3, 5, 6, 7]), (25, [3, 5, 6, 7]), (24, [2, 3, 5, 6, 7, 91]), (23, [2, 3, 5, 6, 7]), (22, [2, 3, 5, 6, 7, 72]), (21, [2, 3, 5, 6, 7]), (29, [3, 5, 6, 7]), (28, [3, 5, 6, 7, 105]), (27, [3, 5, 6, 7]), (33, [3, 5, 6, 7]), (32, [3, 5, 6, 7, 120]), (31, [3, 5, 6, 7]), (38, [3, 5, 6, 7]), (37, [3, 5, 6, 7]), (36, [3, 5, 6, 7, 130]), (35, [3, 5, 6, 7]), (34, [3, 5, 6, 7, 125]), (30, [2, 3, 5, 6, 7, 115]), (26, [2, 3, 5, 6, 7, 100]), (20, [2, 3, 5, 6, 7, 67]), (16, [2, 3, 5, 6, 7, 55]), (10, [2, 3, 5, 6, 7, 34]), (4, [2, 3, 5, 6, 7, 13]), (3, [2, 3, 5, 6, 7]), (2, [2, 3, 5, 6]), (1, [2, 3, 5]), (0, [2, 3])], [(40, [6])], [], [(12, 0), (23, 0), (27, 0), (33, 0), (44, 0), (48, 0), (54, 0), (65, 0), (66, 0), (81, 0), (89, 0), (99, 0), (110, 0), (114, 0), (124, 0), (135, 0), (139, 0), (145, 0), (150, 0), (164, 0), (169, 0)], []⟩⟩,
⟨55, Tryz.f55, ⟨[], [(1, [2]), (0, [0])], [], [], [], []⟩⟩,
⟨16, Tryz.f16, ⟨[], [(6, [4]), (5, [2, 3, 5]), (4, [4]), (3, [2, 3, 55]), (2, [4]), (1, [2, 3, 52]), (0, [2, 3])], [], [], [], []⟩⟩,
⟨54, Tryz.f54, ⟨[], [(8, [4]), (5, [2, 3, 5]), (7, [4]), (6, [2, 3, 5, 61]), (4, [2, 3, 5, 47]), (3, [2, 3, 5]), (2, [4]), (1, [2, 3, 42]), (0, [2, 3])], [], [], [], []⟩⟩,
⟨14, Tryz.f14, ⟨[], [(1, [4]), (0, [2, 3])], [], [], [], []⟩⟩,
⟨15, Tryz.f15, ⟨[], [(1, [2]), (0, [1, 2])], [], [], [], []⟩⟩,
⟨106, Tryz.f106, ⟨[], [(8, [6]), (3, [6]), (5, [6]), (7, [6]), (6, [2, 3, 4, 6, 23]), (4, [2, 3, 4, 6, 8, 15]), (2, [2, 3, 4, 6, 8, 9]), (1, [2, 3, 4, 6, 8]), (0, [2, 3, 4, 6])], [], [], [], []⟩⟩,
⟨105, Tryz.f105, ⟨[], [(7, [2]), (4, [0, 3, 4]), (6, [0, 3, 4]), (5, [0, 3, 4, 16]), (3, [0, 3, 4, 8]), (2, [0, 3, 4]), (1, [0, 3]), (0, [0])], [], [], [], []⟩⟩,
⟨56, Tryz.f56, ⟨[], [(1, [2]), (0, [0])], [], [], [], []⟩⟩,
⟨140, Tryz.f140, ⟨[], [(1, [4]), (0, [0, 1])], [], [], [], []⟩⟩,
⟨117, Tryz.f117, ⟨[], [(5, [2]), (4, [0, 3]), (3, [0, 3]), (2, [0, 3, 11]), (1, [0, 3]), (0, [0])], [], [], [], []⟩⟩,
⟨118, Tryz.f118, ⟨[], [(3, [2]), (2, [2]), (1, [0, 4]), (0, [0])], [], [], [], []⟩⟩,
⟨139, Tryz.f139, ⟨[], [(1, [2]), (0, [0])], [], [], [], []⟩⟩,
⟨104, Tryz.f104, ⟨[], [(21, [6]), (5, [6]), (7, [6]), (9, [6]), (12, [6]), (14, [6]), (16, [6]), (18, [6]), (20, [6]), (19, [1, 3, 63]), (17, [1, 2, 3, 15, 58]), (15, [1, 2, 3, 15, 51]), (13, [1, 2, 3, 15, 49]), (11, [1, 2, 3, 15, 40]), (10, [1, 2, 3, 15, 40]), (8, [1, 2, 3, 15, 32]), (6, [1, 2, 3, 15, 24]), (4, [1, 2, 3, 15, 16]), (3, [1, 2, 3, 15]), (2, [6]), (1, [1, 2, 3, 13]), (0, [1, 2, 3])], [], [], [], []⟩⟩,
⟨53, Tryz.f53, ⟨[], [(33, [4]), (27, [2, 3, 5, 6]), (32, [4]), (31, [2, 3, 5, 6, 7, 141]), (30, [2, 3, 5, 6, 7]), (29, [4]), (28, [2, 3, 5, 6, 129]), (26, [2, 3, 5, 6, 111]), (25, [2, 3, 5, 6]), (13, [4]), (12, [2, 3, 5, 90]), (18, [4]), (17, [2, 3, 5, 97]), (16, [4]), (15, [2, 3, 5, 95]), (21, [4]), (20, [2, 3, 5, 104]), (24, [4]), (23, [2, 3, 5, 108]), (22, [2, 3, 5, 105]), (19, [2, 3, 5, 86, 98]), (14, [2, 3, 5, 86, 91]), (11, [2, 3, 5, 86, 87]), (10, [2, 3, 5, 86]), (9, [2, 3, 5]), (8, [4]), (7, [2, 3, 81]), (6, [4]), (5, [2, 3, 59]), (4, [4]), (3, [4]), (2, [29]), (1, [2, 3, 9]), (0, [2, 3])], [], [], [], []⟩⟩,
⟨103, Tryz.f103, ⟨[], [(3, [4, 5]), (2, [4, 5]), (1, [0, 1, 23]), (0, [0, 1])], [], [], [], []⟩⟩,
⟨138, Tryz.f138, ⟨[], [(3, [2]), (2, [2]), (1, [0, 4]), (0, [0])], [], [], [], []⟩⟩,
⟨102, Tryz.f102, ⟨[], [(8, [4, 5]), (7, [4, 5]), (6, [0, 1, 28]), (5, [0, 1, 6, 7, 8]), (4, [0, 1, 6, 7, 8, 17]), (3, [0, 1, 6, 7, 8]), (2, [0, 1, 6, 7]), (1, [0, 1, 6]), (0, [0, 1])], [], [], [], []⟩⟩,
⟨52, Tryz.f52, ⟨[], [(37, [4, 5]), (25, [0, 1, 6, 8, 11, 12]), (36, [0, 1, 6, 8, 11, 12]), (35, [4, 5]), (34, [0, 1, 6, 8, 12, 16, 114]), (33, [0, 1, 6, 8, 12, 15, 16, 17]), (32, [0, 1, 6, 8, 12, 13, 14, 15]), (31, [0, 1, 6, 8, 12, 13, 14, 15, 100]), (30, [0, 1, 6, 8, 12, 13, 14, 15]), (29, [0, 1, 6, 8, 11, 12, 13]), (28, [0, 1, 6, 8, 11, 12, 89]), (27, [0, 1, 6, 8, 11, 12, 13, 85]), (26, [0, 1, 6, 8, 11, 12, 13]), (24, [0, 1, 6, 8, 11, 12, 79]), (23, [0, 1, 6, 8, 11, 12]), (22, [0, 1, 6, 8, 11]), (21, [4, 5]), (20, [0, 1, 6, 8, 71]), (19, [4, 5]), (18, [0, 1, 6, 8, 68]), (10, [0, 1, 6, 7, 8, 9, 10]), (13, [0, 1, 6, 7, 8, 9, 10]), (15, [4, 5]), (17, [0, 1, 6, 7, 8, 9, 10]), (11, [0, 1, 6, 7, 8, 9, 10]), (16, [0, 1, 6, 7, 8, 9, 10, 56]), (14, [0, 1, 6, 7, 8, 9, 10, 45]), (12, [0, 1, 6, 7, 8, 9, 10, 36]), (9, [0, 1, 6, 7, 8, 9, 10, 31]), (8, [0, 1, 6, 7, 8, 9, 10]), (7, [0, 1, 6, 7, 8, 9]), (6, [0, 1, 6, 7, 8]), (5, [0, 1, 6, 7]), (4, [0, 1, 6]), (3, [0, 1, 6]), (2, [0, 1, 6, 25]), (1, [0, 1, 6]), (0, [0, 1])], [], [], [], []⟩⟩,
⟨51, Tryz.f51, ⟨[38, 72], [(15, [4, 5]), (4, [0, 1, 6, 7]), (14, [0, 1, 6, 7, 8]), (13, [0, 1, 6, 7, 8, 10]), (12, [4, 5]), (11, [0, 1, 6, 7, 8, 9, 10, 11, 67]), (10, [0, 1, 6, 7, 8, 9, 10, 11]), (9, [0, 1, 6, 7, 8, 54]), (8, [0, 1, 6, 7, 8]), (7, [0, 1, 6, 7]), (6, [0, 1, 6, 7, 30]), (5, [0, 1, 6, 7, 24]), (3, [0, 1, 6, 7, 15]), (2, [0, 1, 6, 7]), (1, [0, 1, 6]), (0, [0, 1])], [], [], [], []⟩⟩,
⟨49, Tryz.f49, ⟨[], [(2, [4, 5]), (1, [6, 7]), (0, [0, 1])], [], [], [], []⟩⟩,
⟨48, Tryz.f48, ⟨[], [(3, [2, 3, 4, 5]), (2, [6, 7, 8, 9]), (1, [0, 6, 7]), (0, [0])], [], [], [], []⟩⟩,
⟨50, Tryz.f50, ⟨[], [(9, [4, 5]), (5, [0, 1, 6, 7, 8]), (8, [0, 1, 6, 7, 8]), (7, [0, 1, 6, 8]), (6, [0, 1, 6, 7, 8, 29]), (4, [0, 1, 6, 7, 8, 12]), (3, [0, 1, 6, 7, 8]), (2, [0, 1, 6, 7]), (1, [0, 1, 6]), (0, [0, 1])], [], [], [], []⟩⟩,
⟨47, Tryz.f47, ⟨[], [(5, [4, 5, 6]), (4, [9, 10]), (3, [4, 5, 6]), (2, [7, 18]), (1, [7, 8]), (0, [0, 1])], [], [], [], []⟩⟩,
⟨99, Tryz.f99, ⟨[], [(1, [2]), (0, [0])], [], [], [], []⟩⟩,
⟨46, Tryz.f46, ⟨[], [(1, [2]), (0, [0])], [], [], [], []⟩⟩,
⟨45, Tryz.f45, ⟨[], [(1, [2]), (0, [0])], [], [], [], []⟩⟩,
⟨44, Tryz.f44, ⟨[], [(9, [4, 5]), (5, [0, 1, 6, 7, 8]), (8, [0, 1, 6, 7, 8]), (7, [0, 1, 6, 8]), (6, [0, 1, 6, 7, 8, 29]), (4, [0, 1, 6, 7, 8, 12]), (3, [0, 1, 6, 7, 8]), (2, [0, 1, 6, 7]), (1, [0, 1, 6]), (0, [0, 1])], [], [], [], []⟩⟩,
⟨98, Tryz.f98, ⟨[98], [(36, [4, 5, 6]), (34, [0, 1, 4, 10, 11, 18]), (35, [0, 1, 4, 10, 11, 18]), (33, [0, 1, 4, 10, 11, 18, 125]), (32, [0, 1, 4, 10, 11, 18]), (31, [4, 5, 6]), (30, [0, 1, 4, 10, 11, 120]), (16, [4, 5, 6]), (15, [1, 4, 10, 13]), (14, [4, 5, 6]), (13, [1, 4, 10, 12, 13, 14, 63]), (12, [1, 4, 10, 12, 13, 14]), (18, [0, 1, 4, 10, 11]), (27, [4, 5, 6]), (26, [1, 4, 10, 15]), (25, [4, 5, 6]), (24, [0, 1, 4, 10, 15, 96]), (23, [0, 1, 4, 10, 15]), (22, [4, 5, 6]), (21, [0, 1, 4, 10, 15, 16, 17, 84]), (20, [0, 1, 4, 10, 15, 16, 17]), (29, [0, 1, 4, 10, 11]), (10, [4, 5, 6]), (28, [0, 1, 4, 10, 113]), (19, [0, 1, 4, 10, 51, 74]), (17, [0, 1, 4, 10, 51, 72]), (11, [0, 1, 4, 10, 51, 53]), (9, [0, 1, 4, 10, 51]), (8, [0, 1, 4, 10]), (7, [0, 1, 4, 10]), (6, [4, 5, 6]), (5, [0, 1, 4, 8, 10, 45]), (4, [0, 1, 4, 7, 8, 10]), (3, [4, 5, 6]), (2, [0, 1, 4, 7, 8, 9, 27]), (1, [0, 1, 4, 7, 8, 9]), (0, [0, 1, 4])], [], [], [], []⟩⟩,
⟨43, Tryz.f43, ⟨[32], [(13, [2, 3]), (12, [0, 4, 5]), (11, [0, 4, 7]), (10, [2, 3]), (9, [0, 4, 6, 7, 8, 27]), (8, [0, 4, 6, 7, 8]), (7, [2, 3]), (6, [0, 4, 5, 18]), (5, [0, 4, 5, 15]), (4, [0, 4, 5]), (3, [0, 4]), (2, [2, 3]), (1, [0, 11]), (0, [0])], [], [(8, [6])], [], []⟩⟩,
⟨13, Tryz.f13, ⟨[], [(88, [4, 5]), (87, [4, 13]), (86, [4, 13, 362]), (85, [4, 5]), (84, [4, 6, 13, 358]), (38, [2, 4, 6, 13, 18]), (37, [2, 4, 6, 13, 15, 18, 132]), (36, [2, 4, 6, 13, 14, 15, 18]), (46, [2, 4, 6, 13, 18]), (45, [2, 4, 6, 13, 15, 18]), (44, [2, 4, 6, 13, 15, 20, 22]), (43, [2, 4, 6, 13, 15, 20, 22]), (42, [2, 4, 6, 13, 15, 20, 21, 22]), (41, [2, 4, 6, 13, 15, 19, 20, 21, 22]), (40, [2, 4, 6, 13, 15, 19, 20]), (55, [2, 4, 6, 13, 18]), (54, [2, 4, 6, 13, 18]), (53, [2, 4, 6, 13, 18, 23, 198]), (52, [4, 5]), (51, [2, 4, 6, 13, 18, 23, 194]), (50, [4, 5]), (49, [2, 4, 6, 13, 18, 23, 24, 178]), (48, [2, 4, 6, 13, 18, 23, 24]), (74, [2, 4, 6, 13, 18]), (73, [2, 4, 6, 13, 18, 31]), (72, [2, 4, 6, 13, 18, 31, 37]), (71, [2, 4, 6, 13, 18, 31, 36, 37]), (70, [2, 4, 6, 13, 18, 29, 31, 258]), (69, [2, 4, 6, 13, 18, 29, 30, 31]), (68, [2, 4, 6, 13, 18, 29, 30, 33, 35]), (67, [2, 4, 6, 13, 18, 29, 30, 33, 34, 35]), (66, [2, 4, 6, 13, 18, 29, 30, 32, 33, 34, 35]), (65, [2, 4, 6, 13, 18, 27, 29, 30, 32, 33]), (64, [2, 4, 6, 13, 18, 25, 27, 29, 30, 31, 232]), (63, [2, 4, 6, 13, 18, 25, 26, 27, 28, 29, 30, 31]), (62, [2, 4, 6, 13, 18, 25, 26, 27, 28, 29, 30]), (61, [2, 4, 6, 13, 25, 26, 27, 28, 29, 30]), (60, [2, 4, 6, 13, 25, 26, 27, 28, 29, 30]), (59, [2, 4, 6, 13, 25, 26, 27, 28, 29, 30]), (58, [2, 4, 6, 13, 15, 25, 26, 27, 28]), (57, [2, 4, 6, 13, 15, 25, 26]), (76, [2, 4, 6, 13, 18]), (83, [2, 4, 6, 13, 18]), (82, [2, 4, 6, 13, 18, 40]), (81, [2, 4, 6, 13, 18, 38, 40]), (80, [2, 4, 6, 13, 18, 38, 39, 40, 41]), (79, [2, 4, 6, 13, 15, 38, 39, 40, 41]), (78, [2, 4, 6, 13, 15, 38, 39]), (77, [2, 4, 6, 13, 15, 18, 286]), (75, [2, 4, 6, 13, 15, 18, 115, 277]), (56, [2, 4, 6, 13, 15, 18, 115, 205]), (47, [2, 4, 6, 13, 15, 18, 115, 170]), (39, [2, 4, 6, 13, 15, 18, 115, 140]), (35, [2, 4, 6, 13, 14, 15, 18, 115, 116]), (34, [2, 4, 6, 13, 14, 15, 18, 115, 116]), (33, [2, 4, 6, 13, 14, 15, 18, 115]), (32, [2, 4, 6, 13, 14, 15, 18]), (31, [4, 5]), (30, [2, 4, 6, 13, 14, 15, 113]), (29, [4, 5]), (28, [2, 4, 6, 13, 14, 15, 16, 17, 109]), (27, [2, 4, 6, 13, 14, 15, 16, 17]), (26, [4, 5]), (25, [2, 4, 6, 7, 13, 14, 99]), (12, [2, 4, 6, 7, 13, 14]), (14, [2, 4, 6, 7, 13, 14]), (16, [2, 4, 6, 7, 13, 14]), (18, [2, 4, 6, 7, 13, 14]), (20, [2, 4, 6, 7, 13, 14]), (22, [2, 4, 6, 7, 13, 14]), (24, [2, 4, 6, 7, 13, 14]), (23, [2, 4, 6, 7, 13, 14, 94]), (21, [2, 4, 6, 7, 13, 14, 90]), (19, [2, 4, 6, 7, 13, 14, 86]), (17, [2, 4, 6, 7, 13, 14, 82]), (15, [2, 4, 6, 7, 13, 14, 78]), (13, [2, 4, 6, 7, 13, 14, 74]), (11, [2, 4, 6, 7, 13, 14, 70]), (10, [2, 4, 6, 7, 13, 14]), (9, [2, 4, 6, 7, 13]), (8, [2, 4, 6, 7, 9, 11]), (7, [4, 5]), (6, [2, 4, 6, 7, 9, 58]), (5, [2, 4, 6, 7, 9]), (4, [4, 5]), (3, [2, 4, 6, 7, 8, 49]), (2, [2, 4, 6, 7, 8]), (1, [1, 2, 4, 6]), (0, [1, 2, 4])], [], [], [], []⟩⟩,
⟨77, Tryz.f77, ⟨[], [(36, [2]), (33, [2]), (32, [155]), (35, [2]), (34, [163]), (31, [1, 135]), (30, [2]), (29, [1, 132]), (28, [1, 7]), (20, [1, 5]), (25, [1, 5, 6]), (27, [2]), (26, [1, 5, 6, 104]), (24, [1, 5, 6, 91]), (23, [1, 5, 6]), (22, [2]), (21, [1, 5, 88]), (19, [1, 5, 71]), (18, [1, 5]), (17, [2]), (16, [1, 66]), (9, [1, 4]), (11, [1, 4]), (13, [1, 4]), (15, [1, 4]), (14, [1, 3, 4, 46]), (12, [1, 3, 4, 30, 39]), (10, [1, 3, 4, 30, 35]), (8, [1, 3, 4, 30, 31]), (7, [1, 3, 4, 30]), (6, [1, 3, 4]), (5, [1, 3]), (4, [2]), (3, [1, 23]), (2, [2]), (1, [1, 15]), (0, [1])], [], [], [], []⟩⟩,
⟨32, Tryz.f32, ⟨[], [(14, [6, 7]), (9, [1, 2, 3, 9]), (13, [1, 2, 3, 9]), (12, [6, 7]), (11, [1, 3, 9, 10, 11, 47]), (10, [1, 3, 9, 10, 11]), (8, [1, 2, 3, 9, 31]), (7, [1, 2, 3, 9]), (6, [1, 2, 3]), (5, [6, 7]), (4, [1, 2, 3, 8, 22]), (3, [1, 2, 3, 8]), (2, [6, 7]), (1, [1, 2, 3, 17]), (0, [1, 2, 3])], [], [], [], []⟩⟩,
⟨10, Tryz.f10, ⟨[], [(2, [2]), (1, [4]), (0, [1])], [], [], [], []⟩⟩,
⟨31, Tryz.f31, ⟨[], [(15, [4]), (11, [1, 2, 5, 7]), (14, [4]), (13, [1, 2, 5, 7, 54]), (12, [1, 2, 5, 7]), (10, [1, 2, 5, 7, 40]), (9, [1, 2, 5, 7]), (6, [1, 2, 5, 6]), (8, [4]), (7, [1, 2, 5, 6, 35]), (5, [1, 2, 5, 6, 26]), (4, [1, 2, 5, 6]), (3, [1, 2, 5]), (2, [4]), (1, [1, 2, 21]), (0, [1, 2])], [], [], [], []⟩⟩,
⟨9, Tryz.f9, ⟨[], [(2, [2]), (1, [3]), (0, [1])], [], [], [], []⟩⟩,
⟨125, Tryz.f125, ⟨[], [(1, [4]), (0, [0, 1])], [], [], [], []⟩⟩,
⟨76, Tryz.f76, ⟨[], [(1, [4]), (0, [2, 3])], [], [], [], []⟩⟩,
⟨30, Tryz.f30, ⟨[], [(1, [4]), (0, [2, 3])], [], [], [], []⟩⟩,
⟨29, Tryz.f29, ⟨[], [(13, [4]), (10, [2, 3, 6]), (12, [4]), (11, [2, 3, 6, 87]), (9, [2, 3, 6, 73]), (8, [2, 3, 6]), (5, [2, 3, 5]), (7, [4]), (6, [2, 3, 5, 68]), (4, [2, 3, 5, 55]), (3, [2, 3, 5]), (2, [4]), (1, [2, 3, 50]), (0, [2, 3])], [], [], [], []⟩⟩,
⟨97, Tryz.f97, ⟨[], [(12, [6, 7]), (11, [6, 7]), (10, [2, 3, 6, 36]), (3, [2, 3, 6]), (5, [2, 3, 6]), (9, [2, 3, 6]), (8, [6, 7]), (7, [3, 4, 6, 28]), (6, [2, 3, 4, 6, 16]), (4, [2, 3, 4, 6, 9, 12]), (2, [2, 3, 4, 6, 9, 10]), (1, [2, 3, 4, 6, 9]), (0, [2, 3, 4, 6])], [], [], [], []⟩⟩,
⟨96, Tryz.f96, ⟨[], [(14, [4]), (13, [4]), (12, [38]), (11, [6]), (10, [6]), (9, [4]), (8, [6, 29]), (7, [5, 6]), (6, [5, 6, 18]), (5, [2, 5, 6, 11, 16]), (4, [2, 5, 6, 11, 14]), (3, [2, 5, 6, 11, 12]), (2, [2, 5, 6, 11]), (1, [2, 5, 6]), (0, [2, 3])], [], [], [], []⟩⟩,
⟨137, Tryz.f137, ⟨[], [(8, [2]), (7, [3, 6, 7, 8]), (6, [3, 6, 7, 8]), (5, [3, 6, 7, 8, 14]), (4, [3, 5, 6, 7, 8]), (3, [3, 6, 7, 8, 9]), (2, [3, 6, 7, 8]), (1, [0, 3]), (0, [0])], [], [], [], []⟩⟩,
⟨95, Tryz.f95, ⟨[], [(9, [4]), (8, [4]), (7, [4]), (6, [3, 18]), (5, [3, 10]), (4, [3, 6, 10]), (3, [2, 3, 6, 7]), (2, [2, 3, 6, 7]), (1, [2, 3, 6]), (0, [2, 3])], [], [], [], []⟩⟩,
⟨136, Tryz.f136, ⟨[], [(1, [4]), (0, [0, 1])], [], [], [], []⟩⟩,
⟨135, Tryz.f135, ⟨[], [(12, [2]), (11, [3, 4]), (10, [3, 4]), (9, [3, 4, 22]), (8, [3, 4]), (7, [3, 4]), (6, [3, 4]), (5, [3, 4]), (4, [3, 4, 10]), (3, [3, 4, 7]), (2, [3, 4]), (1, [0, 3]), (0, [0])], [], [], [], []⟩⟩,
⟨134, Tryz.f134, ⟨[], [(1, [4]), (0, [0, 1])], [], [], [], []⟩⟩,
⟨94, Tryz.f94, ⟨[], [(19, [4]), (3, [4]), (5, [4]), (7, [4]), (10, [4]), (12, [4]), (14, [4]), (16, [4]), (18, [4]), (17, [2, 3, 50]), (15, [2, 3, 6, 43]), (13, [2, 3, 6, 35]), (11, [2, 3, 6, 33]), (9, [2, 3, 6, 27]), (8, [2, 3, 6, 27]), (6, [2, 3, 6, 22]), (4, [2, 3, 6, 17]), (2, [2, 3, 6, 7]), (1, [2, 3, 6]), (0, [2, 3])], [], [], [], []⟩⟩,
⟨133, Tryz.f133, ⟨[], [(7, [2]), (6, [2]), (5, [7]), (4, [3, 7]), (3, [3, 4]), (2, [3, 4]), (1, [3]), (0, [0])], [], [], [], []⟩⟩,
⟨132, Tryz.f132, ⟨[], [(7, [2]), (6, [2]), (5, [7]), (4, [3, 7]), (3, [3, 4]), (2, [3, 4]), (1, [3]), (0, [0])], [], [], [], []⟩⟩,
⟨93, Tryz.f93, ⟨[], [(3, [4]), (2, [4]), (1, [2, 3, 6]), (0, [2, 3])], [], [], [], []⟩⟩,
⟨41, Tryz.f41, ⟨[], [(20, [4]), (19, [2, 3, 41, 42, 43]), (18, [4]), (17, [2, 3, 10, 41, 42, 43, 75]), (16, [2, 3, 10, 41, 42, 43]), (15, [4]), (14, [2, 3, 7, 8, 41, 42, 43, 70]), (13, [2, 3, 6, 7, 8, 9, 41, 42, 43]), (12, [2, 3, 6, 7, 41, 42, 43]), (11, [2, 3, 41, 42, 43, 44]), (10, [2, 3, 41, 42, 43]), (9, [4]), (8, [2, 3, 5, 38]), (7, [2, 3, 5]), (2, [4]), (4, [4]), (6, [4]), (5, [2, 3, 30]), (3, [2, 3, 27]), (1, [2, 3, 11]), (0, [2, 3])], [], [(12, [7]), (13, [8])], [], []⟩⟩,
⟨42, Tryz.f42, ⟨[], [(1, [2]), (0, [1, 2])], [], [], [], []⟩⟩,
⟨92, Tryz.f92, ⟨[], [(3, [6]), (2, [7]), (1, [0, 2, 7, 8]), (0, [0, 1, 2])], [], [], [], []⟩⟩,
⟨156, Tryz.f156, ⟨[], [(4, [4, 5]), (3, [4, 5]), (2, [6, 19]), (1, [0, 1, 6]), (0, [0, 1])], [], [], [], []⟩⟩,
⟨171, Tryz.f171, ⟨[], [(3, [2]), (2, [2]), (1, [0, 4]), (0, [0])], [], [], [], []⟩⟩,
⟨155, Tryz.f155, ⟨[], [(9, [4, 5]), (6, [4, 5]), (8, [4, 5]), (7, [7, 43]), (5, [7, 8, 28]), (4, [6, 7, 8]), (3, [0, 1, 6, 7]), (2, [4, 5]), (1, [0, 1, 14]), (0, [0, 1])], [], [], [], []⟩⟩,
⟨154, Tryz.f154, ⟨[], [(1, [2]), (0, [0])], [], [], [], []⟩⟩,
⟨168, Tryz.f168, ⟨[], [(4, [4, 5, 6]), (3, [4, 5, 6]), (2, [0, 1, 7, 12]), (1, [0, 1, 7]), (0, [0, 1])], [], [], [], []⟩⟩,
⟨153, Tryz.f153, ⟨[], [(1, [4, 5, 6]), (0, [0, 1])], [], [], [], []⟩⟩,
⟨177, Tryz.f177, ⟨[], [(1, [4]), (0, [0, 1])], [], [], [], []⟩⟩,
⟨167, Tryz.f167, ⟨[], [(3, [4, 5]), (2, [4, 5]), (1, [0, 1, 9]), (0, [0, 1])], [], [], [], []⟩⟩,
⟨152, Tryz.f152, ⟨[], [(1, [4, 5]), (0, [0, 1])], [], [], [], []⟩⟩,
⟨131, Tryz.f131, ⟨[], [(21, [4, 5]), (20, [7, 11, 59, 60, 61]), (19, [7, 11, 59, 60, 61]), (18, [4, 5]), (17, [7, 17, 59, 60, 61, 87]), (16, [7, 16, 17, 18, 59, 60, 61]), (15, [7, 14, 15, 16, 59, 60, 61]), (14, [7, 11, 14, 59, 60, 61]), (13, [7, 11, 14, 59, 60, 61, 68]), (12, [7, 11, 14, 59, 60, 61]), (11, [7, 11, 13, 59, 60, 61]), (10, [7, 11, 59, 60, 61, 62]), (9, [7, 11, 59, 60, 61]), (8, [1, 7, 8, 9, 11]), (5, [4, 5]), (7, [4, 5]), (6, [1, 7, 8, 9, 45]), (4, [1, 7, 8, 9, 33]), (3, [1, 7, 8, 9, 10]), (2, [1, 6, 7]), (1, [0, 1]), (0, [0, 1])], [], [], [], []⟩⟩,
⟨91, Tryz.f91, ⟨[], [(6, [4, 5]), (5, [8]), (4, [0, 8, 9]), (3, [4, 5]), (2, [0, 6, 20]), (1, [0, 6, 7]), (0, [0, 1])], [], [], [], []⟩⟩,
⟨88, Tryz.f88, ⟨[], [(4, [4, 5, 6]), (3, [4, 5, 7]), (2, [0, 4, 5, 7, 8]), (1, [0, 1, 4, 7]), (0, [0, 1])], [], [], [], []⟩⟩,
⟨89, Tryz.f89, ⟨[], [(1, [4, 5]), (0, [0, 1])], [], [], [], []⟩⟩,
⟨87, Tryz.f87, ⟨[], [(4, [4, 5, 6]), (3, [4, 5, 7]), (2, [0, 4, 5, 7, 8]), (1, [0, 1, 4, 7]), (0, [0, 1])], [], [], [], []⟩⟩,
⟨129, Tryz.f129, ⟨[], [(2, [4, 5]), (1, [6, 7]), (0, [0, 1])], [], [], [], []⟩⟩,
⟨86, Tryz.f86, ⟨[], [(1, [4, 5]), (0, [0, 1])], [], [], [], []⟩⟩,
⟨40, Tryz.f40, ⟨[], [(25, [4]), (24, []), (23, [0, 1]), (22, []), (21, []), (20, [0, 1]), (19, []), (18, [1, 5]), (17, [0, 1, 5, 106]), (16, [0, 1, 5]), (15, [4]), (14, [0, 1, 5, 6, 96]), (13, [0, 1, 5, 6]), (12, []), (11, [0, 1]), (10, []), (9, [0, 1]), (8, [0, 1, 25]), (7, [0, 1, 12, 23]), (6, [0, 1, 12, 21]), (5, [0, 1, 12, 19]), (4, [0, 1, 12, 17]), (3, [0, 1, 12, 15]), (2, [0, 1, 12, 13]), (1, [0, 1, 12]), (0, [0, 1])], [], [], [], []⟩⟩,
⟨12, Tryz.f12, ⟨[], [(24, [4, 5]), (23, [4, 12]), (22, [4, 12, 110]), (21, [4, 5]), (20, [4, 12, 106]), (19, [4, 5]), (18, [2, 4, 12, 16, 17, 79]), (17, [2, 4, 12, 16, 17]), (16, [4, 5]), (15, [2, 4, 7, 12, 16, 73]), (14, [2, 4, 7, 12, 16]), (13, [2, 4, 12, 14, 16]), (12, [4, 5]), (11, [2, 4, 12, 14, 59]), (10, [2, 4, 12, 13, 14, 15]), (9, [2, 4, 6, 12, 13]), (8, [2, 4, 6, 12]), (7, [4, 5]), (6, [2, 4, 6, 8, 10, 38]), (5, [2, 4, 6, 8, 10]), (4, [2, 4, 6, 8]), (3, [4, 5]), (2, [2, 4, 6, 7, 24]), (1, [2, 4, 6, 7]), (0, [1, 2, 4])], [], [], [], []⟩⟩,
⟨148, Tryz.f148, ⟨[73, 78], [(17, [6, 7]), (16, [6, 9]), (15, [0, 1, 2, 6, 9, 46, 47, 48]), (14, [0, 1, 2, 6, 9, 46, 47, 48]), (13, [6, 7]), (12, [0, 1, 2, 6, 9, 12, 46, 47, 48, 67]), (11, [0, 1, 2, 6, 9, 12, 13, 46, 47, 48]), (10, [6, 7]), (9, [0, 1, 2, 6, 9, 46, 47, 48, 56]), (8, [0, 1, 2, 6, 9, 11, 46, 47, 48]), (7, [0, 1, 2, 6, 9, 46, 47, 48, 49]), (6, [0, 1, 2, 6, 9, 46, 47, 48]), (5, [0, 1, 2, 6, 8, 9]), (4, [0, 1, 2, 6, 8]), (3, [0, 1, 2, 6, 8]), (2, [6, 7]), (1, [0, 1, 2, 6, 19]), (0, [0, 1, 2, 6])], [], [(11, [12])], [], []⟩⟩,
⟨122, Tryz.f122, ⟨[], [(8, [2, 3]), (7, [2, 3]), (6, [2, 5, 7, 25]), (5, [2, 5, 7]), (4, [2, 3]), (3, [2, 5, 20]), (2, [0, 2, 4, 5, 6]), (1, [0, 2, 4]), (0, [0, 2])], [], [], [], []⟩⟩,
⟨147, Tryz.f147, ⟨[29], [(8, [4]), (7, [1, 5, 8, 9, 10]), (6, [1, 5, 8, 9, 10]), (5, [1, 5, 7, 8, 9, 10, 22]), (4, [1, 5, 7, 8, 9, 10]), (3, [1, 5, 8, 9, 10, 11]), (2, [1, 5, 8, 9, 10]), (1, [0, 1, 5]), (0, [0, 1])], [], [(4, [7])], [], []⟩⟩,
⟨90, Tryz.f90, ⟨[32, 56], [(17, [4, 5]), (16, [1, 6, 13, 14, 15]), (7, [1, 6, 13, 14, 15]), (15, [1, 6, 8, 9, 13, 14, 15]), (14, [1, 6, 8, 9, 11, 13, 14, 15]), (13, [4, 5]), (12, [1, 6, 8, 9, 10, 11, 12, 13, 14, 15, 51]), (11, [1, 6, 8, 9, 10, 11, 12, 13, 14, 15]), (10, [1, 6, 8, 9, 13, 14, 15, 41]), (9, [1, 6, 8, 9, 13, 14, 15]), (8, [1, 6, 8, 13, 14, 15, 33]), (6, [1, 6, 8, 13, 14, 15, 24]), (5, [1, 6, 8, 13, 14, 15, 19]), (4, [1, 6, 8, 13, 14, 15]), (3, [1, 6, 13, 14, 15, 16]), (2, [1, 6, 13, 14, 15]), (1, [0, 1, 6]), (0, [0, 1])], [], [(4, [8])], [], []⟩⟩,
⟨121, Tryz.f121, ⟨[46, 61], [(28, [2, 3]), (27, [0, 2, 4, 67, 68, 69]), (26, [2, 3]), (25, [0, 2, 4, 67, 68, 69, 84]), (24, [0, 2, 4, 5, 67, 68, 69]), (23, [0, 2, 4, 12, 13, 67, 68, 69]), (22, [0, 2, 4, 67, 68, 69, 70]), (21, [0, 2, 4, 67, 68, 69]), (20, [0, 2, 4, 50, 51, 52]), (19, [0, 2, 4, 50, 51, 52]), (18, [0, 2, 4, 11, 50, 51, 52]), (17, [0, 2, 4, 50, 51, 52, 53]), (16, [0, 2, 4, 50, 51, 52]), (15, [0, 2, 4, 32, 33, 34]), (14, [0, 2, 4, 32, 33, 34]), (13, [2, 3]), (12, [0, 2, 4, 9, 32, 33, 34, 39]), (11, [0, 2, 4, 9, 32, 33, 34]), (10, [0, 2, 4, 32, 33, 34, 35]), (9, [0, 2, 4, 32, 33, 34]), (8, [2, 3]), (7, [0, 2, 4, 6, 7, 29]), (6, [0, 2, 4, 6, 7]), (5, [2, 3]), (4, [0, 2, 4, 21]), (3, [0, 2, 4, 5]), (2, [0, 2, 4]), (1, [0, 2, 4]), (0, [0, 2])], [], [], [], []⟩⟩,
⟨115, Tryz.f115, ⟨[], [(0, [])], [], [], [], []⟩⟩,
⟨114, Tryz.f114, ⟨[], [(1, []), (0, [0, 1, 2, 6])], [], [], [], []⟩⟩,
⟨113, Tryz.f113, ⟨[], [(2, []), (1, [0, 1]), (0, [0, 1, 4])], [], [], [], []⟩⟩,
⟨143, Tryz.f143, ⟨[], [(3, [2]), (2, [2]), (1, [0, 4]), (0, [0])], [], [], [], []⟩⟩,
⟨112, Tryz.f112, ⟨[], [(12, [4]), (11, [8]), (10, [8, 42]), (9, [0, 8]), (8, [0, 5, 7, 8, 34]), (7, [0, 1, 5, 7, 8]), (6, [0, 1, 5, 7]), (5, [0, 1, 5]), (4, [0, 1, 5, 6, 21]), (3, [0, 1, 5, 6]), (2, [0, 1, 5]), (1, [0, 1]), (0, [0, 1])], [], [], [], []⟩⟩,
⟨111, Tryz.f111, ⟨[], [(0, [])], [], [], [], []⟩⟩,
⟨110, Tryz.f110, ⟨[], [(0, [])], [], [], [], []⟩⟩,
⟨109, Tryz.f109, ⟨[], [(1, [6]), (0, [0, 1, 2])], [], [], [], []⟩⟩,
⟨108, Tryz.f108, ⟨[], [(0, [])], [], [], [], []⟩⟩,
⟨59, Tryz.f59, ⟨[], [(29, [4]), (10, [5]), (9, [5, 6, 10]), (15, [5]), (14, [5, 6, 10]), (13, [3, 5, 6, 7, 10]), (12, [3, 5, 6, 7, 10, 30]), (17, [5]), (20, [5]), (19, [5, 8, 10]), (22, [5]), (26, [5]), (25, [3, 5]), (24, [3, 5, 6, 9, 65]), (28, [5]), (27, [5, 6, 9, 80]), (23, [3, 5, 6, 9, 18, 62]), (21, [3, 5, 6, 9, 10, 18, 57]), (18, [3, 5, 6, 8, 9, 10, 18, 49]), (16, [3, 5, 6, 7, 8, 9, 10, 18, 44]), (11, [3, 5, 6, 7, 8, 9, 10, 18, 27]), (8, [3, 5, 6, 7, 8, 9, 10, 18, 19]), (7, [3, 5, 6, 7, 8, 9, 10, 18]), (6, [2, 3, 5, 6, 7, 8, 9, 10]), (5, [2, 3, 5, 6, 7, 8, 9]), (4, [2, 3, 5, 6, 7, 8]), (3, [2, 3, 5, 6, 7]), (2, [2, 3, 5, 6]), (1, [2, 3, 5]), (0, [2, 3])], [], [], [], []⟩⟩,
⟨38, Tryz.f38, ⟨[], [(21, [2]), (20, [2]), (19, [2]), (18, [2]), (17, [2]), (16, [2]), (15, [2]), (14, [2]), (13, [22]), (12, [3, 20]), (11, [3, 18]), (10, [3, 16]), (9, [3, 14]), (8, [3, 10]), (7, [3, 10]), (6, [3, 10]), (5, [3, 7]), (4, [3, 7]), (3, [3, 4]), (2, [3, 4]), (1, [3]), (0, [0])], [], [], [], []⟩⟩,
⟨17, Tryz.f17, ⟨[], [(8, [4]), (7, [5, 7]), (6, [5, 7, 32]), (5, [3, 5, 7]), (4, [3, 5]), (3, [2, 3, 5, 6, 24]), (2, [2, 3, 5, 6]), (1, [2, 3, 5]), (0, [2, 3])], [], [], [], []⟩⟩,
⟨146, Tryz.f146, ⟨[], [(1, [2]), (0, [0])], [], [], [], []⟩⟩,
⟨164, Tryz.f164, ⟨[], [(7, [4]), (6, [0, 1, 7, 8]), (5, [4]), (4, [0, 1, 5, 7, 8, 16]), (3, [0, 1, 5, 7, 8]), (2, [0, 1, 7, 8, 9]), (1, [0, 1, 7, 8]), (0, [0, 1])], [], [], [], []⟩⟩,
⟨145, Tryz.f145, ⟨[], [(1, [4]), (0, [0, 1])], [], [], [], []⟩⟩,
⟨119, Tryz.f119, ⟨[], [(1, [2]), (0, [0])], [], [], [], []⟩⟩,
⟨66, Tryz.f66, ⟨[], [(1, [2]), (0, [1])], [], [], [], []⟩⟩,
⟨80, Tryz.f80, ⟨[5], [(3, [2]), (2, [2]), (1, [0, 4]), (0, [0])], [], [], [], []⟩⟩,
⟨35, Tryz.f35, ⟨[32, 44, 50], [(11, [8]), (10, [0]), (9, [0, 3, 9, 10, 34, 35, 36]), (8, [0, 3, 9, 10, 34, 35, 36]), (7, [0, 3, 9, 10, 12, 34, 35, 36]), (6, [0, 3, 9, 10, 12, 34, 35, 36]), (5, [0, 3, 9, 10, 34, 35, 36, 37]), (4, [0, 3, 9, 10, 34, 35, 36]), (3, [0, 3, 5, 9, 10]), (2, [0, 3, 5, 9]), (1, [0, 2, 3, 5, 9]), (0, [0, 2, 3, 5])], [(10, [10])], [(6, [12])], [(50, 0)], []⟩⟩,
⟨126, Tryz.f126, ⟨[], [(24, [2]), (23, [2]), (22, [1, 73]), (21, [2]), (20, [1, 6, 72]), (19, [1, 3, 4, 5, 6]), (18, [2]), (17, [1, 3, 4, 5, 6, 48]), (16, [1, 3, 4, 5, 6]), (15, [2]), (14, [1, 3, 4, 5, 6, 40]), (13, [1, 3, 4, 5, 6]), (12, [1, 3, 4, 5, 6]), (11, [1, 3, 4, 5, 6]), (10, [1, 3, 4, 5, 6]), (9, [1, 3, 4, 5, 6, 20]), (8, [1, 3, 4, 5, 6, 8, 17]), (7, [1, 3, 4, 5, 6, 8, 17]), (6, [1, 3, 4, 5, 6, 8, 15]), (5, [1, 3, 4, 5, 6, 8, 13]), (4, [1, 3, 4, 5, 6, 8, 11]), (3, [1, 3, 4, 5, 6, 8, 9]), (2, [1, 3, 4, 5, 6, 8]), (1, [1, 3, 4, 5, 6]), (0, [1])], [], [], [], []⟩⟩,
⟨78, Tryz.f78, ⟨[], [(15, [6]), (14, [1, 2, 48, 49, 50]), (13, [6]), (12, [1, 2, 9, 48, 49, 50, 60]), (11, [1, 2, 9, 48, 49, 50]), (10, [1, 2, 8, 48, 49, 50]), (9, [1, 2, 48, 49, 50, 51]), (8, [1, 2, 48, 49, 50]), (7, [1, 2, 3]), (2, [6]), (4, [6]), (6, [6]), (5, [1, 2, 3, 28]), (3, [1, 2, 3, 19]), (1, [1, 2, 3, 10]), (0, [1, 2, 3])], [], [(10, [8])], [], []⟩⟩,
⟨33, Tryz.f33, ⟨[], [(2, [2]), (1, [1, 3]), (0, [1])], [], [], [], []⟩⟩,
⟨11, Tryz.f11, ⟨[], [(3, [2]), (2, [2]), (1, [1, 5]), (0, [1])], [], [], [(7, 0)], []⟩⟩,
⟨3, Tryz.f3, ⟨[], [(16, [6]), (15, [3, 4, 12, 13, 14]), (14, [3, 4, 7, 12]), (13, [6]), (12, [3, 4, 7, 62]), (11, [6]), (10, [3, 4, 7, 58]), (9, [3, 4, 7, 8, 9, 10, 11]), (8, [2, 3, 4, 7, 8, 9]), (7, [6]), (6, [2, 3, 4, 7, 34]), (5, [2, 3, 4, 7]), (4, [6]), (3, [2, 3, 4, 29]), (2, [6]), (1, [2, 3, 4, 16]), (0, [2, 3, 4])], [], [], [], []⟩⟩]
set_option maxRecDepth 100000 in
theorem k_ingotlaw21_FootTwice : cFunc Tryz.prog a_ingotlaw21_FootTwice Tryz.f7 = some i_ingotlaw21_FootTwice := by kernel_rfl
set_option maxRecDepth 100000 in
theorem k_ingotlaw21_FootPairs : cFunc Tryz.prog a_ingotlaw21_FootPairs Tryz.f5 = some i_ingotlaw21_FootPairs := by kernel_rfl
set_option maxRecDepth 100000 in
theorem k_ingotref21_PutTypes : cFunc Tryz.prog a_ingotref21_PutTypes Tryz.f20 = some i_ingotref21_PutTypes := by kernel_rfl
set_option maxRecDepth 100000 in
theorem k_ingotref3_PutBytes : cFunc Tryz.prog a_ingotref3_PutBytes Tryz.f26 = some i_ingotref3_PutBytes := by kernel_rfl
set_option maxRecDepth 100000 in
theorem k_ingotref1_Zig : cFunc Tryz.prog a_ingotref1_Zig Tryz.f116 = some i_ingotref1_Zig := by kernel_rfl
set_option maxRecDepth 100000 in
theorem k_ingotref1_PutVar : cFunc Tryz.prog a_ingotref1_PutVar Tryz.f61 = some i_ingotref1_PutVar := by kernel_rfl
set_option maxRecDepth 100000 in
theorem k_ingotref3_may : cFunc Tryz.prog a_ingotref3_may Tryz.f75 = some i_ingotref3_may := by kernel_rfl
set_option maxRecDepth 100000 in
theorem k_ingotref3_PutUint : cFunc Tryz.prog a_ingotref3_PutUint Tryz.f27 = some i_ingotref3_PutUint := by kernel_rfl
set_option maxRecDepth 100000 in
theorem k_ingotref1_Zag : cFunc Tryz.prog a_ingotref1_Zag Tryz.f100 = some i_ingotref1_Zag := by kernel_rfl
set_option maxRecDepth 100000 in
theorem k_ingotref1_Var : cFunc Tryz.prog a_ingotref1_Var Tryz.f101 = some i_ingotref1_Var := by kernel_rfl
set_option maxRecDepth 100000 in
theorem k_nums_Zag : cFunc Tryz.prog a_nums_Zag Tryz.f151 = some i_nums_Zag := by kernel_rfl
set_option maxRecDepth 100000 in
theorem k_foot_parts_known : cFunc Tryz.prog a_foot_parts_known Tryz.f72 = some i_foot_parts_known := by kernel_rfl
set_option maxRecDepth 100000 in
theorem k_pb_Text : cFunc Tryz.prog a_pb_Text Tryz.f39 = some i_pb_Text := by kernel_rfl
set_option maxRecDepth 100000 in
theorem k_foot_parts_pairs : cFunc Tryz.prog a_foot_parts_pairs Tryz.f71 = some i_foot_parts_pairs := by kernel_rfl
set_option maxRecDepth 100000 in
theorem k_foot_parts_tree : cFunc Tryz.prog a_foot_parts_tree Tryz.f70 = some i_foot_parts_tree := by kernel_rfl
set_option maxRecDepth 100000 in
theorem k_foot_parts_stripes : cFunc Tryz.prog a_foot_parts_stripes Tryz.f69 = some i_foot_parts_stripes := by kernel_rfl
set_option maxRecDepth 100000 in
theorem k_pb_last : cFunc Tryz.prog a_pb_last Tryz.f84 = some i_pb_last := by kernel_rfl
set_option maxRecDepth 100000 in
theorem k_pb_Uint : cFunc Tryz.prog a_pb_Uint Tryz.f37 = some i_pb_Uint := by kernel_rfl
set_option maxRecDepth 100000 in
theorem k_foot_number : cFunc Tryz.prog a_foot_number Tryz.f68 = some i_foot_number := by kernel_rfl
set_option maxRecDepth 100000 in
theorem k_foot_split : cFunc Tryz.prog a_foot_split Tryz.f67 = some i_foot_split := by kernel_rfl
set_option maxRecDepth 100000 in
theorem k_nums_Var : cFunc Tryz.prog a_nums_Var Tryz.f127 = some i_nums_Var := by kernel_rfl
set_option maxRecDepth 100000 in
theorem k_pb_field : cFunc Tryz.prog a_pb_field Tryz.f82 = some i_pb_field := by kernel_rfl
set_option maxRecDepth 100000 in
theorem k_pb_Parse : cFunc Tryz.prog a_pb_Parse Tryz.f36 = some i_pb_Parse := by kernel_rfl
set_option maxRecDepth 100000 in
theorem k_foot_Decode : cFunc Tryz.prog a_foot_Decode Tryz.f22 = some i_foot_Decode := by kernel_rfl
set_option maxRecDepth 100000 in
theorem k_nums_Zig : cFunc Tryz.prog a_nums_Zig Tryz.f141 = some i_nums_Zig := by kernel_rfl
set_option maxRecDepth 100000 in
theorem k_foot_PutTypes : cFunc Tryz.prog a_foot_PutTypes Tryz.f19 = some i_foot_PutTypes := by kernel_rfl
set_option maxRecDepth 100000 in
theorem k_pb_PutBytes : cFunc Tryz.prog a_pb_PutBytes Tryz.f58 = some i_pb_PutBytes := by kernel_rfl
set_option maxRecDepth 100000 in
theorem k_nums_PutVar : cFunc Tryz.prog a_nums_PutVar Tryz.f64 = some i_nums_PutVar := by kernel_rfl
set_option maxRecDepth 100000 in
theorem k_slices_Clone_Sbyte_byte : cFunc Tryz.prog a_slices_Clone_Sbyte_byte Tryz.f63 = some i_slices_Clone_Sbyte_byte := by kernel_rfl
set_option maxRecDepth 100000 in
theorem k_pb_head : cFunc Tryz.prog a_pb_head Tryz.f107 = some i_pb_head := by kernel_rfl
set_option maxRecDepth 100000 in
theorem k_pb_PutUint : cFunc Tryz.prog a_pb_PutUint Tryz.f57 = some i_pb_PutUint := by kernel_rfl
set_option maxRecDepth 100000 in
theorem k_foot_right : cFunc Tryz.prog a_foot_right Tryz.f65 = some i_foot_right := by kernel_rfl
set_option maxRecDepth 100000 in
theorem k_foot_Encode : cFunc Tryz.prog a_foot_Encode Tryz.f21 = some i_foot_Encode := by kernel_rfl
set_option maxRecDepth 100000 in
theorem k_ingotlaw21_known : cFunc Tryz.prog a_ingotlaw21_known Tryz.f8 = some i_ingotlaw21_known := by kernel_rfl
theorem tbl_ok : Entries Tryz.prog tbl :=
  .cons (.of Tryz.func7 (by kernel_rfl) k_ingotlaw21_FootTwice) <|
  .cons (.of Tryz.func5 (by kernel_rfl) k_ingotlaw21_FootPairs) <|
  .cons (.of Tryz.func20 (by kernel_rfl) k_ingotref21_PutTypes) <|
  .cons (.of Tryz.func26 (by kernel_rfl) k_ingotref3_PutBytes) <|
  .cons (.of Tryz.func116 (by kernel_rfl) k_ingotref1_Zig) <|
  .cons (.of Tryz.func61 (by kernel_rfl) k_ingotref1_PutVar) <|
  .cons (.of Tryz.func75 (by kernel_rfl) k_ingotref3_may) <|
  .cons (.of Tryz.func27 (by kernel_rfl) k_ingotref3_PutUint) <|
  .cons (.of Tryz.func100 (by kernel_rfl) k_ingotref1_Zag) <|
  .cons (.of Tryz.func101 (by kernel_rfl) k_ingotref1_Var) <|
  .cons (.of Tryz.func151 (by kernel_rfl) k_nums_Zag) <|
  .cons (.of Tryz.func72 (by kernel_rfl) k_foot_parts_known) <|
  .cons (.of Tryz.func39 (by kernel_rfl) k_pb_Text) <|
  .cons (.of Tryz.func71 (by kernel_rfl) k_foot_parts_pairs) <|
  .cons (.of Tryz.func70 (by kernel_rfl) k_foot_parts_tree) <|
  .cons (.of Tryz.func69 (by kernel_rfl) k_foot_parts_stripes) <|
  .cons (.of Tryz.func84 (by kernel_rfl) k_pb_last) <|
  .cons (.of Tryz.func37 (by kernel_rfl) k_pb_Uint) <|
  .cons (.of Tryz.func68 (by kernel_rfl) k_foot_number) <|
  .cons (.of Tryz.func67 (by kernel_rfl) k_foot_split) <|
  .cons (.of Tryz.func127 (by kernel_rfl) k_nums_Var) <|
  .cons (.of Tryz.func82 (by kernel_rfl) k_pb_field) <|
  .cons (.of Tryz.func36 (by kernel_rfl) k_pb_Parse) <|
  .cons (.of Tryz.func22 (by kernel_rfl) k_foot_Decode) <|
  .cons (.of Tryz.func141 (by kernel_rfl) k_nums_Zig) <|
  .cons (.of Tryz.func19 (by kernel_rfl) k_foot_PutTypes) <|
  .cons (.of Tryz.func58 (by kernel_rfl) k_pb_PutBytes) <|
  .cons (.of Tryz.func64 (by kernel_rfl) k_nums_PutVar) <|
  .cons (.of Tryz.func63 (by kernel_rfl) k_slices_Clone_Sbyte_byte) <|
  .cons (.of Tryz.func107 (by kernel_rfl) k_pb_head) <|
  .cons (.of Tryz.func57 (by kernel_rfl) k_pb_PutUint) <|
  .cons (.of Tryz.func65 (by kernel_rfl) k_foot_right) <|
  .cons (.of Tryz.func21 (by kernel_rfl) k_foot_Encode) <|
  .cons (.of Tryz.func8 (by kernel_rfl) k_ingotlaw21_known) <|
  .nil
theorem tab_ok : ATab Tryz.prog tab :=
  .cons Tryz.func28 (by kernel_rfl) <|
  .cons Tryz.func74 (by kernel_rfl) <|
  .cons Tryz.func25 (by kernel_rfl) <|
  .cons Tryz.func24 (by kernel_rfl) <|
  .cons Tryz.func6 (by kernel_rfl) <|
  .cons Tryz.func73 (by kernel_rfl) <|
  .cons Tryz.func23 (by kernel_rfl) <|
  .cons Tryz.func4 (by kernel_rfl) <|
  .cons Tryz.func62 (by kernel_rfl) <|
  .cons Tryz.func60 (by kernel_rfl) <|
  .cons Tryz.func18 (by kernel_rfl) <|
  .cons Tryz.func55 (by kernel_rfl) <|
  .cons Tryz.func16 (by kernel_rfl) <|
  .cons Tryz.func54 (by kernel_rfl) <|
  .cons Tryz.func14 (by kernel_rfl) <|
  .cons Tryz.func15 (by kernel_rfl) <|
  .cons Tryz.func106 (by kernel_rfl) <|
  .cons Tryz.func105 (by kernel_rfl) <|
  .cons Tryz.func56 (by kernel_rfl) <|
  .cons Tryz.func140 (by kernel_rfl) <|
  .cons Tryz.func117 (by kernel_rfl) <|
  .cons Tryz.func118 (by kernel_rfl) <|
  .cons Tryz.func139 (by kernel_rfl) <|
  .cons Tryz.func104 (by kernel_rfl) <|
  .cons Tryz.func53 (by kernel_rfl) <|
  .cons Tryz.func103 (by kernel_rfl) <|
  .cons Tryz.func138 (by kernel_rfl) <|
  .cons Tryz.func102 (by kernel_rfl) <|
  .cons Tryz.func52 (by kernel_rfl) <|
  .cons Tryz.func51 (by kernel_rfl) <|
  .cons Tryz.func49 (by kernel_rfl) <|
  .cons Tryz.func48 (by kernel_rfl) <|
  .cons Tryz.func50 (by kernel_rfl) <|
  .cons Tryz.func47 (by kernel_rfl) <|
  .cons Tryz.func99 (by kernel_rfl) <|
  .cons Tryz.func46 (by kernel_rfl) <|
  .cons Tryz.func45 (by kernel_rfl) <|
  .cons Tryz.func44 (by kernel_rfl) <|
  .cons Tryz.func98 (by kernel_rfl) <|
  .cons Tryz.func43 (by kernel_rfl) <|
  .cons Tryz.func13 (by kernel_rfl) <|
  .cons Tryz.func77 (by kernel_rfl) <|
  .cons Tryz.func32 (by kernel_rfl) <|
  .cons Tryz.func10 (by kernel_rfl) <|
  .cons Tryz.func31 (by kernel_rfl) <|
  .cons Tryz.func9 (by kernel_rfl) <|
  .cons Tryz.func125 (by kernel_rfl) <|
  .cons Tryz.func76 (by kernel_rfl) <|
  .cons Tryz.func30 (by kernel_rfl) <|
  .cons Tryz.func29 (by kernel_rfl) <|
  .cons Tryz.func97 (by kernel_rfl) <|
  .cons Tryz.func96 (by kernel_rfl) <|
  .cons Tryz.func137 (by kernel_rfl) <|
  .cons Tryz.func95 (by kernel_rfl) <|
  .cons Tryz.func136 (by kernel_rfl) <|
  .cons Tryz.func135 (by kernel_rfl) <|
  .cons Tryz.func134 (by kernel_rfl) <|
  .cons Tryz.func94 (by kernel_rfl) <|
  .cons Tryz.func133 (by kernel_rfl) <|
  .cons Tryz.func132 (by kernel_rfl) <|
  .cons Tryz.func93 (by kernel_rfl) <|
  .cons Tryz.func41 (by kernel_rfl) <|
  .cons Tryz.func42 (by kernel_rfl) <|
  .cons Tryz.func92 (by kernel_rfl) <|
  .cons Tryz.func156 (by kernel_rfl) <|
  .cons Tryz.func171 (by kernel_rfl) <|
  .cons Tryz.func155 (by kernel_rfl) <|
  .cons Tryz.func154 (by kernel_rfl) <|
  .cons Tryz.func168 (by kernel_rfl) <|
  .cons Tryz.func153 (by kernel_rfl) <|
  .cons Tryz.func177 (by kernel_rfl) <|
  .cons Tryz.func167 (by kernel_rfl) <|
  .cons Tryz.func152 (by kernel_rfl) <|
  .cons Tryz.func131 (by kernel_rfl) <|
  .cons Tryz.func91 (by kernel_rfl) <|
  .cons Tryz.func88 (by kernel_rfl) <|
  .cons Tryz.func89 (by kernel_rfl) <|
  .cons Tryz.func87 (by kernel_rfl) <|
  .cons Tryz.func129 (by kernel_rfl) <|
  .cons Tryz.func86 (by kernel_rfl) <|
  .cons Tryz.func40 (by kernel_rfl) <|
  .cons Tryz.func12 (by kernel_rfl) <|
  .cons Tryz.func148 (by kernel_rfl) <|
  .cons Tryz.func122 (by kernel_rfl) <|
  .cons Tryz.func147 (by kernel_rfl) <|
  .cons Tryz.func90 (by kernel_rfl) <|
  .cons Tryz.func121 (by kernel_rfl) <|
  .cons Tryz.func115 (by kernel_rfl) <|
  .cons Tryz.func114 (by kernel_rfl) <|
  .cons Tryz.func113 (by kernel_rfl) <|
  .cons Tryz.func143 (by kernel_rfl) <|
  .cons Tryz.func112 (by kernel_rfl) <|
  .cons Tryz.func111 (by kernel_rfl) <|
  .cons Tryz.func110 (by kernel_rfl) <|
  .cons Tryz.func109 (by kernel_rfl) <|
  .cons Tryz.func108 (by kernel_rfl) <|
  .cons Tryz.func59 (by kernel_rfl) <|
  .cons Tryz.func38 (by kernel_rfl) <|
  .cons Tryz.func17 (by kernel_rfl) <|
  .cons Tryz.func146 (by kernel_rfl) <|
  .cons Tryz.func164 (by kernel_rfl) <|
  .cons Tryz.func145 (by kernel_rfl) <|
  .cons Tryz.func119 (by kernel_rfl) <|
  .cons Tryz.func66 (by kernel_rfl) <|
  .cons Tryz.func80 (by kernel_rfl) <|
  .cons Tryz.func35 (by kernel_rfl) <|
  .cons Tryz.func126 (by kernel_rfl) <|
  .cons Tryz.func78 (by kernel_rfl) <|
  .cons Tryz.func33 (by kernel_rfl) <|
  .cons Tryz.func11 (by kernel_rfl) <|
  .cons Tryz.func3 (by kernel_rfl) <|
  .nil

/-! what is known besides -/
def exts : FuncId → Option (List D → Option V) := fun f => if f = n_types_names then some (xNames) else if f = n_slices_Backward_Spb_Field_pb_Field then some (xSeq n_slices_Backward_Spb_Field_pb_Field_1) else none
def iters : FuncId → Option (List D → Option (List (List D))) := fun f => if f = n_slices_Backward_Spb_Field_pb_Field_1 then some (iBackA 5) else none
noncomputable def cfg : Cfg := { funcs := fnsOf Tryz.prog tbl tab, meth := fun _ _ => none, glob := fun _ => none, gobj := fun _ => none, intTy := fun _ => false, clip := fun f => clips.contains f, ext := exts, iter := iters }

noncomputable abbrev X_ingotlaw21_FootTwice : Kx := fx cfg 0 [.t 6]
theorem e_ingotlaw21_FootTwice : Oe cfg n_ingotlaw21_FootTwice 3 [.t 6] c_ingotlaw21_FootTwice := fun _ _ _ => evL_go (fn := i_ingotlaw21_FootTwice) rfl rfl _ _ _
theorem o_ingotlaw21_FootTwice (x0 x1 x2 : D) : Of X_ingotlaw21_FootTwice n_ingotlaw21_FootTwice [.d x0, .d x1, .d x2] c_ingotlaw21_FootTwice := e_ingotlaw21_FootTwice 0 _ _ rfl rfl
noncomputable abbrev X_ingotlaw21_FootPairs : Kx := fx cfg 0 [.t 2]
theorem e_ingotlaw21_FootPairs : Oe cfg n_ingotlaw21_FootPairs 1 [.t 2] c_ingotlaw21_FootPairs := fun _ _ _ => evL_go (fn := i_ingotlaw21_FootPairs) rfl rfl _ _ _
theorem o_ingotlaw21_FootPairs (x0 : D) : Of X_ingotlaw21_FootPairs n_ingotlaw21_FootPairs [.d x0] c_ingotlaw21_FootPairs := e_ingotlaw21_FootPairs 0 _ _ rfl rfl
noncomputable abbrev X_ingotref21_PutTypes : Kx := fx cfg 0 [.t 4]
theorem e_ingotref21_PutTypes : Oe cfg n_ingotref21_PutTypes 2 [.t 4] c_ingotref21_PutTypes := fun _ _ _ => evL_go (fn := i_ingotref21_PutTypes) rfl rfl _ _ _
theorem o_ingotref21_PutTypes (x0 x1 : D) : Of X_ingotref21_PutTypes n_ingotref21_PutTypes [.d x0, .d x1] c_ingotref21_PutTypes := e_ingotref21_PutTypes 0 _ _ rfl rfl
noncomputable abbrev X_ingotref3_PutBytes : Kx := fx cfg 0 [.t 6]
theorem e_ingotref3_PutBytes : Oe cfg n_ingotref3_PutBytes 3 [.t 6] c_ingotref3_PutBytes := fun _ _ _ => evL_go (fn := i_ingotref3_PutBytes) rfl rfl _ _ _
theorem o_ingotref3_PutBytes (x0 x1 x2 : D) : Of X_ingotref3_PutBytes n_ingotref3_PutBytes [.d x0, .d x1, .d x2] c_ingotref3_PutBytes := e_ingotref3_PutBytes 0 _ _ rfl rfl
noncomputable abbrev X_ingotref1_Zig : Kx := fx cfg 0 [.t 2]
theorem e_ingotref1_Zig : Oe cfg n_ingotref1_Zig 1 [.t 2] c_ingotref1_Zig := fun _ _ _ => evL_go (fn := i_ingotref1_Zig) rfl rfl _ _ _
theorem o_ingotref1_Zig (x0 : D) : Of X_ingotref1_Zig n_ingotref1_Zig [.d x0] c_ingotref1_Zig := e_ingotref1_Zig 0 _ _ rfl rfl
noncomputable abbrev X_ingotref1_PutVar : Kx := fx cfg 0 [.t 4]
theorem e_ingotref1_PutVar : Oe cfg n_ingotref1_PutVar 2 [.t 4] c_ingotref1_PutVar := fun _ _ _ => evL_go (fn := i_ingotref1_PutVar) rfl rfl _ _ _
theorem o_ingotref1_PutVar (x0 x1 : D) : Of X_ingotref1_PutVar n_ingotref1_PutVar [.d x0, .d x1] c_ingotref1_PutVar := e_ingotref1_PutVar 0 _ _ rfl rfl
noncomputable abbrev X_ingotref3_may : Kx := fx cfg 0 [.t 2]
theorem e_ingotref3_may : Oe cfg n_ingotref3_may 1 [.t 2] c_ingotref3_may := fun _ _ _ => evL_go (fn := i_ingotref3_may) rfl rfl _ _ _
theorem o_ingotref3_may (x0 : D) : Of X_ingotref3_may n_ingotref3_may [.d x0] c_ingotref3_may := e_ingotref3_may 0 _ _ rfl rfl
noncomputable abbrev X_ingotref3_PutUint : Kx := fx cfg 0 [.t 6]
theorem e_ingotref3_PutUint : Oe cfg n_ingotref3_PutUint 3 [.t 6] c_ingotref3_PutUint := fun _ _ _ => evL_go (fn := i_ingotref3_PutUint) rfl rfl _ _ _
theorem o_ingotref3_PutUint (x0 x1 x2 : D) : Of X_ingotref3_PutUint n_ingotref3_PutUint [.d x0, .d x1, .d x2] c_ingotref3_PutUint := e_ingotref3_PutUint 0 _ _ rfl rfl
noncomputable abbrev X_ingotref1_Zag : Kx := fx cfg 0 [.t 2]
theorem e_ingotref1_Zag : Oe cfg n_ingotref1_Zag 1 [.t 2] c_ingotref1_Zag := fun _ _ _ => evL_go (fn := i_ingotref1_Zag) rfl rfl _ _ _
theorem o_ingotref1_Zag (x0 : D) : Of X_ingotref1_Zag n_ingotref1_Zag [.d x0] c_ingotref1_Zag := e_ingotref1_Zag 0 _ _ rfl rfl
noncomputable abbrev X_ingotref1_Var : Kx := fx cfg 0 [.t 4, .t 5, .t 6]
theorem e_ingotref1_Var : Oe cfg n_ingotref1_Var 2 [.t 4, .t 5, .t 6] c_ingotref1_Var := fun _ _ _ => evL_go (fn := i_ingotref1_Var) rfl rfl _ _ _
theorem o_ingotref1_Var (x0 x1 : D) : Of X_ingotref1_Var n_ingotref1_Var [.d x0, .d x1] c_ingotref1_Var := e_ingotref1_Var 0 _ _ rfl rfl
noncomputable abbrev X_nums_Zag : Kx := fx cfg 0 [.t 2]
theorem e_nums_Zag : Oe cfg n_nums_Zag 1 [.t 2] c_nums_Zag := fun _ _ _ => evL_go (fn := i_nums_Zag) rfl rfl _ _ _
theorem o_nums_Zag (x0 : D) : Of X_nums_Zag n_nums_Zag [.d x0] c_nums_Zag := e_nums_Zag 0 _ _ rfl rfl
noncomputable abbrev X_foot_parts_known : Kx := fx cfg 0 [.t 4, .t 5]
theorem e_foot_parts_known : Oe cfg n_foot_parts_known 2 [.t 4, .t 5] c_foot_parts_known := fun _ _ _ => evL_go (fn := i_foot_parts_known) rfl rfl _ _ _
theorem o_foot_parts_known (x0 x1 : D) : Of X_foot_parts_known n_foot_parts_known [.d x0, .d x1] c_foot_parts_known := e_foot_parts_known 0 _ _ rfl rfl
noncomputable abbrev X_pb_Text : Kx := fx cfg 0 [.t 4, .t 5]
theorem e_pb_Text : Oe cfg n_pb_Text 2 [.t 4, .t 5] c_pb_Text := fun _ _ _ => evL_go (fn := i_pb_Text) rfl rfl _ _ _
theorem o_pb_Text (x0 x1 : D) : Of X_pb_Text n_pb_Text [.d x0, .d x1] c_pb_Text := e_pb_Text 0 _ _ rfl rfl
noncomputable abbrev X_foot_parts_pairs : Kx := fx cfg 0 [.t 2, .t 3]
theorem e_foot_parts_pairs : Oe cfg n_foot_parts_pairs 1 [.t 2, .t 3] c_foot_parts_pairs := fun _ _ _ => evL_go (fn := i_foot_parts_pairs) rfl rfl _ _ _
theorem o_foot_parts_pairs (x0 : D) : Of X_foot_parts_pairs n_foot_parts_pairs [.d x0] c_foot_parts_pairs := e_foot_parts_pairs 0 _ _ rfl rfl
noncomputable abbrev X_foot_parts_tree : Kx := fx cfg 0 [.cell 2 (some 6), .t 3]
theorem e_foot_parts_tree : Oe cfg n_foot_parts_tree 1 [.cell 2 (some 6), .t 3] c_foot_parts_tree := fun _ _ _ => evL_go (fn := i_foot_parts_tree) rfl rfl _ _ _
theorem o_foot_parts_tree (x0 : D) : Of X_foot_parts_tree n_foot_parts_tree [.d x0] c_foot_parts_tree := e_foot_parts_tree 0 _ _ rfl rfl
noncomputable abbrev X_foot_parts_stripes : Kx := fx cfg 0 [.t 2, .t 3]
theorem e_foot_parts_stripes : Oe cfg n_foot_parts_stripes 1 [.t 2, .t 3] c_foot_parts_stripes := fun _ _ _ => evL_go (fn := i_foot_parts_stripes) rfl rfl _ _ _
theorem o_foot_parts_stripes (x0 : D) : Of X_foot_parts_stripes n_foot_parts_stripes [.d x0] c_foot_parts_stripes := e_foot_parts_stripes 0 _ _ rfl rfl
noncomputable abbrev X_pb_last : Kx := fx cfg 0 [.cell 6 (some 5), .cell 7 none]
theorem e_pb_last : Oe cfg n_pb_last 3 [.cell 6 (some 5), .cell 7 none] c_pb_last := fun _ _ _ => evL_go (fn := i_pb_last) rfl rfl _ _ _
theorem o_pb_last (x0 x1 x2 : D) : Of X_pb_last n_pb_last [.d x0, .d x1, .d x2] c_pb_last := e_pb_last 0 _ _ rfl rfl
noncomputable abbrev X_pb_Uint : Kx := fx cfg 0 [.t 4, .t 5]
theorem e_pb_Uint : Oe cfg n_pb_Uint 2 [.t 4, .t 5] c_pb_Uint := fun _ _ _ => evL_go (fn := i_pb_Uint) rfl rfl _ _ _
theorem o_pb_Uint (x0 x1 : D) : Of X_pb_Uint n_pb_Uint [.d x0, .d x1] c_pb_Uint := e_pb_Uint 0 _ _ rfl rfl
noncomputable abbrev X_foot_number : Kx := fx cfg 0 [.t 4, .t 5]
theorem e_foot_number : Oe cfg n_foot_number 2 [.t 4, .t 5] c_foot_number := fun _ _ _ => evL_go (fn := i_foot_number) rfl rfl _ _ _
theorem o_foot_number (x0 x1 : D) : Of X_foot_number n_foot_number [.d x0, .d x1] c_foot_number := e_foot_number 0 _ _ rfl rfl
noncomputable abbrev X_foot_split : Kx := fx cfg 0 [.cell 2 (some 9), .t 3]
theorem e_foot_split : Oe cfg n_foot_split 1 [.cell 2 (some 9), .t 3] c_foot_split := fun _ _ _ => evL_go (fn := i_foot_split) rfl rfl _ _ _
theorem o_foot_split (x0 : D) : Of X_foot_split n_foot_split [.d x0] c_foot_split := e_foot_split 0 _ _ rfl rfl
noncomputable abbrev X_nums_Var : Kx := fx cfg 0 [.t 4, .t 5, .t 6]
theorem e_nums_Var : Oe cfg n_nums_Var 2 [.t 4, .t 5, .t 6] c_nums_Var := fun _ _ _ => evL_go (fn := i_nums_Var) rfl rfl _ _ _
theorem o_nums_Var (x0 x1 : D) : Of X_nums_Var n_nums_Var [.d x0, .d x1] c_nums_Var := e_nums_Var 0 _ _ rfl rfl
noncomputable abbrev X_pb_field : Kx := fx cfg 0 [.cell 4 (some 5), .t 5, .t 6]
theorem e_pb_field : Oe cfg n_pb_field 2 [.cell 4 (some 5), .t 5, .t 6] c_pb_field := fun _ _ _ => evL_go (fn := i_pb_field) rfl rfl _ _ _
theorem o_pb_field (x0 x1 : D) : Of X_pb_field n_pb_field [.d x0, .d x1] c_pb_field := e_pb_field 0 _ _ rfl rfl
noncomputable abbrev X_pb_Parse : Kx := fx cfg 0 [.t 2, .t 3]
theorem e_pb_Parse : Oe cfg n_pb_Parse 1 [.t 2, .t 3] c_pb_Parse := fun _ _ _ => evL_go (fn := i_pb_Parse) rfl rfl _ _ _
theorem o_pb_Parse (x0 : D) : Of X_pb_Parse n_pb_Parse [.d x0] c_pb_Parse := e_pb_Parse 0 _ _ rfl rfl
noncomputable abbrev X_foot_Decode : Kx := fx cfg 0 [.cell 2 (some 12), .t 3]
theorem e_foot_Decode : Oe cfg n_foot_Decode 1 [.cell 2 (some 12), .t 3] c_foot_Decode := fun _ _ _ => evL_go (fn := i_foot_Decode) rfl rfl _ _ _
theorem o_foot_Decode (x0 : D) : Of X_foot_Decode n_foot_Decode [.d x0] c_foot_Decode := e_foot_Decode 0 _ _ rfl rfl
noncomputable abbrev X_nums_Zig : Kx := fx cfg 0 [.t 2]
theorem e_nums_Zig : Oe cfg n_nums_Zig 1 [.t 2] c_nums_Zig := fun _ _ _ => evL_go (fn := i_nums_Zig) rfl rfl _ _ _
theorem o_nums_Zig (x0 : D) : Of X_nums_Zig n_nums_Zig [.d x0] c_nums_Zig := e_nums_Zig 0 _ _ rfl rfl
noncomputable abbrev X_foot_PutTypes : Kx := fx cfg 0 [.t 4]
theorem e_foot_PutTypes : Oe cfg n_foot_PutTypes 2 [.t 4] c_foot_PutTypes := fun _ _ _ => evL_go (fn := i_foot_PutTypes) rfl rfl _ _ _
theorem o_foot_PutTypes (x0 x1 : D) : Of X_foot_PutTypes n_foot_PutTypes [.d x0, .d x1] c_foot_PutTypes := e_foot_PutTypes 0 _ _ rfl rfl
noncomputable abbrev X_pb_PutBytes : Kx := fx cfg 0 [.t 6]
theorem e_pb_PutBytes : Oe cfg n_pb_PutBytes 3 [.t 6] c_pb_PutBytes := fun _ _ _ => evL_go (fn := i_pb_PutBytes) rfl rfl _ _ _
theorem o_pb_PutBytes (x0 x1 x2 : D) : Of X_pb_PutBytes n_pb_PutBytes [.d x0, .d x1, .d x2] c_pb_PutBytes := e_pb_PutBytes 0 _ _ rfl rfl
noncomputable abbrev X_nums_PutVar : Kx := fx cfg 0 [.t 4]
theorem e_nums_PutVar : Oe cfg n_nums_PutVar 2 [.t 4] c_nums_PutVar := fun _ _ _ => evL_go (fn := i_nums_PutVar) rfl rfl _ _ _
theorem o_nums_PutVar (x0 x1 : D) : Of X_nums_PutVar n_nums_PutVar [.d x0, .d x1] c_nums_PutVar := e_nums_PutVar 0 _ _ rfl rfl
noncomputable abbrev X_slices_Clone_Sbyte_byte : Kx := fx cfg 0 [.t 2]
theorem e_slices_Clone_Sbyte_byte : Oe cfg n_slices_Clone_Sbyte_byte 1 [.t 2] c_slices_Clone_Sbyte_byte := fun _ _ _ => evL_go (fn := i_slices_Clone_Sbyte_byte) rfl rfl _ _ _
theorem o_slices_Clone_Sbyte_byte (x0 : D) : Of X_slices_Clone_Sbyte_byte n_slices_Clone_Sbyte_byte [.d x0] c_slices_Clone_Sbyte_byte := e_slices_Clone_Sbyte_byte 0 _ _ rfl rfl
noncomputable abbrev X_pb_head : Kx := fx cfg 0 [.t 6, .t 7]
theorem e_pb_head : Oe cfg n_pb_head 3 [.t 6, .t 7] c_pb_head := fun _ _ _ => evL_go (fn := i_pb_head) rfl rfl _ _ _
theorem o_pb_head (x0 x1 x2 : D) : Of X_pb_head n_pb_head [.d x0, .d x1, .d x2] c_pb_head := e_pb_head 0 _ _ rfl rfl
noncomputable abbrev X_pb_PutUint : Kx := fx cfg 0 [.t 6]
theorem e_pb_PutUint : Oe cfg n_pb_PutUint 3 [.t 6] c_pb_PutUint := fun _ _ _ => evL_go (fn := i_pb_PutUint) rfl rfl _ _ _
theorem o_pb_PutUint (x0 x1 x2 : D) : Of X_pb_PutUint n_pb_PutUint [.d x0, .d x1, .d x2] c_pb_PutUint := e_pb_PutUint 0 _ _ rfl rfl
noncomputable abbrev X_foot_right : Kx := fx cfg 0 [.t 4]
theorem e_foot_right : Oe cfg n_foot_right 2 [.t 4] c_foot_right := fun _ _ _ => evL_go (fn := i_foot_right) rfl rfl _ _ _
theorem o_foot_right (x0 x1 : D) : Of X_foot_right n_foot_right [.d x0, .d x1] c_foot_right := e_foot_right 0 _ _ rfl rfl
noncomputable abbrev X_foot_Encode : Kx := fx cfg 0 [.t 2, .t 3]
theorem e_foot_Encode : Oe cfg n_foot_Encode 1 [.t 2, .t 3] c_foot_Encode := fun _ _ _ => evL_go (fn := i_foot_Encode) rfl rfl _ _ _
theorem o_foot_Encode (x0 : D) : Of X_foot_Encode n_foot_Encode [.d x0] c_foot_Encode := e_foot_Encode 0 _ _ rfl rfl
noncomputable abbrev X_ingotlaw21_known : Kx := fx cfg 0 [.t 0]
theorem e_ingotlaw21_known : Oe cfg n_ingotlaw21_known 0 [.t 0] c_ingotlaw21_known := fun _ _ _ => evL_go (fn := i_ingotlaw21_known) rfl rfl _ _ _
theorem o_ingotlaw21_known : Of X_ingotlaw21_known n_ingotlaw21_known [] c_ingotlaw21_known := e_ingotlaw21_known 0 _ _ rfl rfl
@[go_sem] theorem u_foot_Decode : Uc cfg n_foot_Decode := uc rfl
@[go_sem] theorem u_foot_Encode : Uc cfg n_foot_Encode := uc rfl
@[go_sem] theorem u_foot_PutStats : Uc cfg n_foot_PutStats := uc rfl
@[go_sem] theorem u_foot_PutTypes : Uc cfg n_foot_PutTypes := uc rfl
@[go_sem] theorem u_foot_ReadStats : Uc cfg n_foot_ReadStats := uc rfl
@[go_sem] theorem u_foot_Stripe_numbers : Uc cfg n_foot_Stripe_numbers := uc rfl
@[go_sem] theorem u_foot_in : Uc cfg n_foot_in := uc rfl
@[go_sem] theorem u_foot_node : Uc cfg n_foot_node := uc rfl
@[go_sem] theorem u_foot_number : Uc cfg n_foot_number := uc rfl
@[go_sem] theorem u_foot_parts_known : Uc cfg n_foot_parts_known := uc rfl
@[go_sem] theorem u_foot_parts_pairs : Uc cfg n_foot_parts_pairs := uc rfl
@[go_sem] theorem u_foot_parts_stripes : Uc cfg n_foot_parts_stripes := uc rfl
@[go_sem] theorem u_foot_parts_tree : Uc cfg n_foot_parts_tree := uc rfl
@[go_sem] theorem u_foot_right : Uc cfg n_foot_right := uc rfl
@[go_sem] theorem u_foot_split : Uc cfg n_foot_split := uc rfl
@[go_sem] theorem u_ingotlaw21_FootPairs : Uc cfg n_ingotlaw21_FootPairs := uc rfl
@[go_sem] theorem u_ingotlaw21_FootTwice : Uc cfg n_ingotlaw21_FootTwice := uc rfl
@[go_sem] theorem u_ingotlaw21_known : Uc cfg n_ingotlaw21_known := uc rfl
@[go_sem] theorem u_ingotref13_Flatten : Uc cfg n_ingotref13_Flatten := uc rfl
@[go_sem] theorem u_ingotref13_Same : Uc cfg n_ingotref13_Same := uc rfl
@[go_sem] theorem u_ingotref1_PutVar : Uc cfg n_ingotref1_PutVar := uc rfl
@[go_sem] theorem u_ingotref1_Var : Uc cfg n_ingotref1_Var := uc rfl
@[go_sem] theorem u_ingotref1_Zag : Uc cfg n_ingotref1_Zag := uc rfl
@[go_sem] theorem u_ingotref1_Zig : Uc cfg n_ingotref1_Zig := uc rfl
@[go_sem] theorem u_ingotref21_PutTypes : Uc cfg n_ingotref21_PutTypes := uc rfl
@[go_sem] theorem u_ingotref3_PutBytes : Uc cfg n_ingotref3_PutBytes := uc rfl
@[go_sem] theorem u_ingotref3_PutUint : Uc cfg n_ingotref3_PutUint := uc rfl
@[go_sem] theorem u_ingotref3_may : Uc cfg n_ingotref3_may := uc rfl
@[go_sem] theorem u_nums_PutVar : Uc cfg n_nums_PutVar := uc rfl
@[go_sem] theorem u_nums_Var : Uc cfg n_nums_Var := uc rfl
@[go_sem] theorem u_nums_Zag : Uc cfg n_nums_Zag := uc rfl
@[go_sem] theorem u_nums_Zig : Uc cfg n_nums_Zig := uc rfl
@[go_sem] theorem u_pb_Parse : Uc cfg n_pb_Parse := uc rfl
@[go_sem] theorem u_pb_PutBytes : Uc cfg n_pb_PutBytes := uc rfl
@[go_sem] theorem u_pb_PutUint : Uc cfg n_pb_PutUint := uc rfl
@[go_sem] theorem u_pb_Text : Uc cfg n_pb_Text := uc rfl
@[go_sem] theorem u_pb_Uint : Uc cfg n_pb_Uint := uc rfl
@[go_sem] theorem u_pb_field : Uc cfg n_pb_field := uc rfl
@[go_sem] theorem u_pb_head : Uc cfg n_pb_head := uc rfl
@[go_sem] theorem u_pb_last : Uc cfg n_pb_last := uc rfl
@[go_sem] theorem u_slices_Backward_Spb_Field_pb_Field : Uc cfg n_slices_Backward_Spb_Field_pb_Field := uc rfl
@[go_sem] theorem u_slices_Clip_Sapi_Pair_api_Pair : Uk cfg n_slices_Clip_Sapi_Pair_api_Pair := uk rfl
@[go_sem] theorem u_slices_Clip_Sbyte_byte : Uk cfg n_slices_Clip_Sbyte_byte := uk rfl
@[go_sem] theorem u_slices_Clip_Sfoot_Stripe_foot_Stripe : Uk cfg n_slices_Clip_Sfoot_Stripe_foot_Stripe := uk rfl
@[go_sem] theorem u_slices_Clip_Spb_Field_pb_Field : Uk cfg n_slices_Clip_Spb_Field_pb_Field := uk rfl
@[go_sem] theorem u_slices_Clip_Sstat_Stats_stat_Stats : Uk cfg n_slices_Clip_Sstat_Stats_stat_Stats := uk rfl
@[go_sem] theorem u_slices_Clone_Sbyte_byte : Uc cfg n_slices_Clone_Sbyte_byte := uc rfl
@[go_sem] theorem u_stat_Same : Uc cfg n_stat_Same := uc rfl
@[go_sem] theorem u_types_Build : Uc cfg n_types_Build := uc rfl
@[go_sem] theorem u_types_Check : Uc cfg n_types_Check := uc rfl
@[go_sem] theorem u_types_Flatten : Uc cfg n_types_Flatten := uc rfl
@[go_sem] theorem u_types_names : Uc cfg n_types_names := uc rfl

end Go.Proofs.YtpnhljhciibfnaaGreatDoor
