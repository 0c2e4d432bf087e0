/- The evaluator's code of the functions that the rows reach, printed by program, checked against the program. -/
import Derived.Test.YtnabebdceaoiiaaGreatDoorL12
import Derived.Test.YtnabebdceaoiiaaGreatDoorChecked
namespace Go.Proofs.YtnabebdceaoiiaaGreatDoor
open Go.Ev Go
variable {X : Kx} {K : List Kf} {s : St}

def n_ingotlaw14_ValueTwo : FuncId := 3
def n_ingotlaw14_ValueProjects : FuncId := 4
def n_ingotlaw14_ValueCopies : FuncId := 5
def n_ingotlaw14_ValueRanges : FuncId := 6
def n_ingotlaw14_ValueLengths : FuncId := 7
def n_ingotlaw14_ValueNulls : FuncId := 8
def n_ingotlaw14_ValueOrders : FuncId := 9
def n_ingotlaw14_known : FuncId := 10
def n_ingotlaw14_Right : FuncId := 11
def n_ingotlaw14_Few : FuncId := 12
def n_ingotref14_Check : FuncId := 13
def n_value_Compare : FuncId := 14
def n_ingotref14_Compare : FuncId := 15
def n_value_Same : FuncId := 16
def n_ingotref14_Same : FuncId := 17
def n_ingotref13_Flatten : FuncId := 18
def n_ingotref13_Close : FuncId := 19
def n_value_Project : FuncId := 20
def n_types_Flatten : FuncId := 21
def n_ingotref14_Project : FuncId := 22
def n_value_Clone : FuncId := 23
def n_ingotlaw14_spoil : FuncId := 24
def n_value_Check : FuncId := 25
def n_value_Signs : FuncId := 26
def n_value_Size : FuncId := 27
def n_value_Text : FuncId := 28
def n_value_Zero : FuncId := 29
def n_ingotlaw13_Few : FuncId := 30
def n_ingotref13_Check : FuncId := 31
def n_ingotlaw14_Weight : FuncId := 32
def n_ingotref14_Numbers : FuncId := 33
def n_ingotref14_Texts : FuncId := 34
def n_ingotref13_Leaf : FuncId := 35
def n_ingotref14_Signs : FuncId := 36
def n_ingotref14_Kid : FuncId := 37
def n_types_Leaf : FuncId := 38
def n_value_text : FuncId := 39
def n_bytes_Compare : FuncId := 40
def n_cmp_Or_int : FuncId := 41
def n_cmp_Compare_int64 : FuncId := 42
def n_cmp_Compare_int : FuncId := 43
def n_bytes_Equal : FuncId := 44
def n_slices_EqualFunc_Sapi_Value_Sapi_Value_api_Value_api_Value : FuncId := 45
def n_value_Same_1 : FuncId := 46
def n_ingotref13_flat : FuncId := 47
def n_ingotref13_all : FuncId := 48
def n_value_project : FuncId := 49
def n_types_Check : FuncId := 50
def n_slices_Clip_Stypes_Node_types_Node : FuncId := 51
def n_types_flatten : FuncId := 52
def n_slices_Clip_Sbyte_byte : FuncId := 53
def n_slices_Clone_Sbyte_byte : FuncId := 54
def n_slices_Clip_Sapi_Value_api_Value : FuncId := 55
def n_value_named : FuncId := 56
def n_value_number : FuncId := 57
def n_value_long : FuncId := 58
def n_value_count : FuncId := 59
def n_value_kid : FuncId := 60
def n_value_leaf : FuncId := 61
def n_strconv_FormatInt : FuncId := 62
def n_strings_Join : FuncId := 63
def n_ingotlaw13_few : FuncId := 64
def n_ingotref13_check : FuncId := 65
def n_ingotlaw14_few : FuncId := 66
def n_ingotref11_Digits : FuncId := 67
def n_ingotref12_Check : FuncId := 68
def n_bytealg_Compare : FuncId := 69
def n_cmp_isNaN_int64 : FuncId := 70
def n_cmp_isNaN_int : FuncId := 71
def n_types_walk : FuncId := 72
def n_slices_Clip_Sstring_string : FuncId := 73
def n_slices_Clone_Sstring_string : FuncId := 74
def n_slices_Clip_Sint_int : FuncId := 75
def n_value_wide : FuncId := 76
def n_deci_Digits : FuncId := 77
def n_stamp_Check : FuncId := 78
def n_strconv_FormatBool : FuncId := 79
def n_deci_Text : FuncId := 80
def n_strings_Cut : FuncId := 81
def n_stamp_Text : FuncId := 82
def n_value_hex : FuncId := 83
def n_ingotref13_own : FuncId := 88
def n_ingotref11_digits : FuncId := 89
def n_ingotref11_size : FuncId := 90
def n_types_right : FuncId := 91
def n_deci_size : FuncId := 92
def n_types_names : FuncId := 106
/-! ingot/ingotlaw14.ValueOrders -/
@[go_sem] def r_ingotlaw14_ValueOrders_0_o : Ops := [
oo 4 (.box 6 (.t 0)), oo 5 (.box 5 (.t 1)), oo 6 (.box 5 (.t 2)), oo 7 (.box 5 (.t 3)), oo 8 (.asg (.c (.bool false)))]
def r_ingotlaw14_ValueOrders_0 := rg r_ingotlaw14_ValueOrders_0_o [4, 5, 6, 7]
@[go_sem] theorem r_ingotlaw14_ValueOrders_0_u : Gr X K s r_ingotlaw14_ValueOrders_0 r_ingotlaw14_ValueOrders_0_o [4, 5, 6, 7] := go_region _ _
@[go_sem] def r_ingotlaw14_ValueOrders_1_o : Ops := [
oo 15 (.call false n_ingotlaw14_known []), oo 16 (.un .not (.t 15))]
def r_ingotlaw14_ValueOrders_1 := rg r_ingotlaw14_ValueOrders_1_o [4, 5, 6, 7, 16]
@[go_sem] theorem r_ingotlaw14_ValueOrders_1_u : Gr X K s r_ingotlaw14_ValueOrders_1 r_ingotlaw14_ValueOrders_1_o [4, 5, 6, 7, 16] := go_region _ _
@[go_sem] def r_ingotlaw14_ValueOrders_2_o : Ops := [
oo 8 (.asg (.c (.bool false)))]
def r_ingotlaw14_ValueOrders_2 := rg r_ingotlaw14_ValueOrders_2_o [8]
@[go_sem] theorem r_ingotlaw14_ValueOrders_2_u : Gr X K s r_ingotlaw14_ValueOrders_2 r_ingotlaw14_ValueOrders_2_o [8] := go_region _ _
@[go_sem] def r_ingotlaw14_ValueOrders_3_o : Ops := [
oo 17 (.load (some 6) (.t 4)), oo 18 (.call false n_ingotlaw14_Right [(.t 17)]), oo 19 (.un .not (.t 18)), oo 20 (.mv (.t 19)), og 21 20 false (.load (some 5) (.t 5)), og 22 20 false (.call false n_ingotlaw14_Few [(.t 21)]), og 23 20 false (.un .not (.t 22)), oo 24 (.pick (.t 20) (.c (.bool true)) (.t 23)), oo 25 (.mv (.t 24)), og 26 25 false (.load (some 5) (.t 6)), og 27 25 false (.call false n_ingotlaw14_Few [(.t 26)]), og 28 25 false (.un .not (.t 27)), oo 29 (.pick (.t 25) (.c (.bool true)) (.t 28)), oo 30 (.mv (.t 29)), og 31 30 false (.load (some 5) (.t 7)), og 32 30 false (.call false n_ingotlaw14_Few [(.t 31)]), og 33 30 false (.un .not (.t 32)), oo 34 (.pick (.t 30) (.c (.bool true)) (.t 33)), oo 35 (.mv (.t 34)), og 36 35 false (.load (some 6) (.t 4)), og 37 35 false (.load (some 5) (.t 5)), og 38 35 false (.call false n_ingotref14_Check [(.t 36), (.t 37)]), og 39 35 false (.bin .neq (.t 38) (ci 0)), oo 40 (.pick (.t 35) (.c (.bool true)) (.t 39)), oo 41 (.mv (.t 40)), og 42 41 false (.load (some 6) (.t 4)), og 43 41 false (.load (some 5) (.t 6)), og 44 41 false (.call false n_ingotref14_Check [(.t 42), (.t 43)]), og 45 41 false (.bin .neq (.t 44) (ci 0)), oo 46 (.pick (.t 41) (.c (.bool true)) (.t 45)), oo 47 (.mv (.t 46)), og 48 47 false (.load (some 6) (.t 4)), og 49 47 false (.load (some 5) (.t 7)), og 50 47 false (.call false n_ingotref14_Check [(.t 48), (.t 49)]), og 51 47 false (.bin .neq (.t 50) (ci 0)), oo 52 (.pick (.t 47) (.c (.bool true)) (.t 51))]
def r_ingotlaw14_ValueOrders_3 := rg r_ingotlaw14_ValueOrders_3_o [4, 5, 6, 7, 52]
@[go_sem] theorem r_ingotlaw14_ValueOrders_3_u : Gr X K s r_ingotlaw14_ValueOrders_3 r_ingotlaw14_ValueOrders_3_o [4, 5, 6, 7, 52] := go_region _ _
@[go_sem] def r_ingotlaw14_ValueOrders_4_o : Ops := [
oo 8 (.asg (.c (.bool true)))]
def r_ingotlaw14_ValueOrders_4 := rg r_ingotlaw14_ValueOrders_4_o [8]
@[go_sem] theorem r_ingotlaw14_ValueOrders_4_u : Gr X K s r_ingotlaw14_ValueOrders_4 r_ingotlaw14_ValueOrders_4_o [8] := go_region _ _
@[go_sem] def r_ingotlaw14_ValueOrders_5_o : Ops := [
oo 54 (.load (some 6) (.t 4)), oo 55 (.load (some 5) (.t 5)), oo 56 (.load (some 5) (.t 6)), oo 57 (.call false n_value_Compare [(.t 54), (.t 55), (.t 56)]), oo 53 (.mv (.t 57)), oo 58 (.ext (.t 53) 0), oo 59 (.ext (.t 53) 1), oo 9 (.asg (.t 58)), oo 10 (.asg (.t 59))]
def r_ingotlaw14_ValueOrders_5 := rg r_ingotlaw14_ValueOrders_5_o [4, 5, 6, 7, 9, 10]
@[go_sem] theorem r_ingotlaw14_ValueOrders_5_u : Gr X K s r_ingotlaw14_ValueOrders_5 r_ingotlaw14_ValueOrders_5_o [4, 5, 6, 7, 9, 10] := go_region _ _
@[go_sem] def r_ingotlaw14_ValueOrders_6_o : Ops := [
oo 61 (.load (some 6) (.t 4)), oo 62 (.load (some 5) (.t 6)), oo 63 (.load (some 5) (.t 7)), oo 64 (.call false n_value_Compare [(.t 61), (.t 62), (.t 63)]), oo 60 (.mv (.t 64)), oo 65 (.ext (.t 60) 0), oo 66 (.ext (.t 60) 1), oo 11 (.asg (.t 65)), oo 12 (.asg (.t 66))]
def r_ingotlaw14_ValueOrders_6 := rg r_ingotlaw14_ValueOrders_6_o [4, 5, 7, 9, 10, 11, 12]
@[go_sem] theorem r_ingotlaw14_ValueOrders_6_u : Gr X K s r_ingotlaw14_ValueOrders_6 r_ingotlaw14_ValueOrders_6_o [4, 5, 7, 9, 10, 11, 12] := go_region _ _
@[go_sem] def r_ingotlaw14_ValueOrders_7_o : Ops := [
oo 68 (.load (some 6) (.t 4)), oo 69 (.load (some 5) (.t 5)), oo 70 (.load (some 5) (.t 7)), oo 71 (.call false n_value_Compare [(.t 68), (.t 69), (.t 70)]), oo 67 (.mv (.t 71)), oo 72 (.ext (.t 67) 0), oo 73 (.ext (.t 67) 1), oo 13 (.asg (.t 72)), oo 14 (.asg (.t 73))]
def r_ingotlaw14_ValueOrders_7 := rg r_ingotlaw14_ValueOrders_7_o [9, 10, 11, 12, 13, 14]
@[go_sem] theorem r_ingotlaw14_ValueOrders_7_u : Gr X K s r_ingotlaw14_ValueOrders_7 r_ingotlaw14_ValueOrders_7_o [9, 10, 11, 12, 13, 14] := go_region _ _
@[go_sem] def r_ingotlaw14_ValueOrders_8_o : Ops := [
oo 74 (.mv (.t 10)), oo 75 (.un .not (.t 74)), oo 76 (.mv (.t 75)), og 77 76 false (.mv (.t 12)), og 78 76 false (.un .not (.t 77)), oo 79 (.pick (.t 76) (.c (.bool true)) (.t 78))]
def r_ingotlaw14_ValueOrders_8 := rg r_ingotlaw14_ValueOrders_8_o [9, 11, 13, 14, 79]
@[go_sem] theorem r_ingotlaw14_ValueOrders_8_u : Gr X K s r_ingotlaw14_ValueOrders_8 r_ingotlaw14_ValueOrders_8_o [9, 11, 13, 14, 79] := go_region _ _
@[go_sem] def r_ingotlaw14_ValueOrders_9_o : Ops := [
oo 8 (.asg (.c (.bool true)))]
def r_ingotlaw14_ValueOrders_9 := rg r_ingotlaw14_ValueOrders_9_o [8]
@[go_sem] theorem r_ingotlaw14_ValueOrders_9_u : Gr X K s r_ingotlaw14_ValueOrders_9 r_ingotlaw14_ValueOrders_9_o [8] := go_region _ _
@[go_sem] def r_ingotlaw14_ValueOrders_10_o : Ops := [
oo 80 (.mv (.t 14)), oo 81 (.mv (.t 80)), og 82 81 true (.mv (.t 9)), og 83 81 true (.bin .gtr (.t 82) (ci 0)), og 84 81 true (.mv (.t 83)), og 85 84 false (.mv (.t 11)), og 86 84 false (.bin .gtr (.t 85) (ci 0)), og 87 81 true (.pick (.t 84) (.c (.bool true)) (.t 86)), og 88 81 true (.mv (.t 87)), og 89 88 false (.mv (.t 13)), og 90 88 false (.bin .leq (.t 89) (ci 0)), og 91 81 true (.pick (.t 88) (.c (.bool true)) (.t 90)), oo 92 (.pick (.t 81) (.t 91) (.c (.bool false))), oo 93 (.mv (.t 92)), og 94 93 true (.mv (.t 9)), og 95 93 true (.bin .lss (.t 94) (ci 0)), og 96 93 true (.mv (.t 95)), og 97 96 false (.mv (.t 11)), og 98 96 false (.bin .lss (.t 97) (ci 0)), og 99 93 true (.pick (.t 96) (.c (.bool true)) (.t 98)), og 100 93 true (.mv (.t 99)), og 101 100 false (.mv (.t 13)), og 102 100 false (.bin .geq (.t 101) (ci 0)), og 103 93 true (.pick (.t 100) (.c (.bool true)) (.t 102)), oo 104 (.pick (.t 93) (.t 103) (.c (.bool false))), oo 8 (.asg (.t 104))]
def r_ingotlaw14_ValueOrders_10 := rg r_ingotlaw14_ValueOrders_10_o [8]
@[go_sem] theorem r_ingotlaw14_ValueOrders_10_u : Gr X K s r_ingotlaw14_ValueOrders_10 r_ingotlaw14_ValueOrders_10_o [8] := go_region _ _
def c_ingotlaw14_ValueOrders : ICode := (.seq r_ingotlaw14_ValueOrders_0 (.seq r_ingotlaw14_ValueOrders_1 (.cond (.t 16) (.seq r_ingotlaw14_ValueOrders_2 .ret) (.seq r_ingotlaw14_ValueOrders_3 (.cond (.t 52) (.seq r_ingotlaw14_ValueOrders_4 .ret) (.seq r_ingotlaw14_ValueOrders_5 (.seq r_ingotlaw14_ValueOrders_6 (.seq r_ingotlaw14_ValueOrders_7 (.seq r_ingotlaw14_ValueOrders_8 (.cond (.t 79) (.seq r_ingotlaw14_ValueOrders_9 .ret) (.seq r_ingotlaw14_ValueOrders_10 .ret)))))))))))
def i_ingotlaw14_ValueOrders : IFunc := ⟨4, [.t 8], c_ingotlaw14_ValueOrders⟩
def a_ingotlaw14_ValueOrders : Advice := ⟨[], [(10, [8]), (9, [8]), (8, [9, 11, 13, 14, 79]), (7, [9, 10, 11, 12, 13, 14]), (6, [4, 5, 7, 9, 10, 11, 12]), (5, [4, 5, 6, 7, 9, 10]), (4, [8]), (3, [4, 5, 6, 7, 52]), (2, [8]), (1, [4, 5, 6, 7, 16]), (0, [4, 5, 6, 7])], [], [], []⟩
/-! ingot/ingotlaw14.ValueNulls -/
@[go_sem] def r_ingotlaw14_ValueNulls_0_o : Ops := [
oo 2 (.box 6 (.t 0)), oo 3 (.box 5 (.t 1)), oo 4 (.asg (.c (.bool false)))]
def r_ingotlaw14_ValueNulls_0 := rg r_ingotlaw14_ValueNulls_0_o [2, 3]
@[go_sem] theorem r_ingotlaw14_ValueNulls_0_u : Gr X K s r_ingotlaw14_ValueNulls_0 r_ingotlaw14_ValueNulls_0_o [2, 3] := go_region _ _
@[go_sem] def r_ingotlaw14_ValueNulls_1_o : Ops := [
oo 8 (.call false n_ingotlaw14_known []), oo 9 (.un .not (.t 8))]
def r_ingotlaw14_ValueNulls_1 := rg r_ingotlaw14_ValueNulls_1_o [2, 3, 9]
@[go_sem] theorem r_ingotlaw14_ValueNulls_1_u : Gr X K s r_ingotlaw14_ValueNulls_1 r_ingotlaw14_ValueNulls_1_o [2, 3, 9] := go_region _ _
@[go_sem] def r_ingotlaw14_ValueNulls_2_o : Ops := [
oo 4 (.asg (.c (.bool false)))]
def r_ingotlaw14_ValueNulls_2 := rg r_ingotlaw14_ValueNulls_2_o [4]
@[go_sem] theorem r_ingotlaw14_ValueNulls_2_u : Gr X K s r_ingotlaw14_ValueNulls_2 r_ingotlaw14_ValueNulls_2_o [4] := go_region _ _
@[go_sem] def r_ingotlaw14_ValueNulls_3_o : Ops := [
oo 10 (.load (some 6) (.t 2)), oo 11 (.call false n_ingotlaw14_Right [(.t 10)]), oo 12 (.un .not (.t 11)), oo 13 (.mv (.t 12)), og 14 13 false (.load (some 5) (.t 3)), og 15 13 false (.call false n_ingotlaw14_Few [(.t 14)]), og 16 13 false (.un .not (.t 15)), oo 17 (.pick (.t 13) (.c (.bool true)) (.t 16))]
def r_ingotlaw14_ValueNulls_3 := rg r_ingotlaw14_ValueNulls_3_o [2, 3, 17]
@[go_sem] theorem r_ingotlaw14_ValueNulls_3_u : Gr X K s r_ingotlaw14_ValueNulls_3 r_ingotlaw14_ValueNulls_3_o [2, 3, 17] := go_region _ _
@[go_sem] def r_ingotlaw14_ValueNulls_4_o : Ops := [
oo 4 (.asg (.c (.bool true)))]
def r_ingotlaw14_ValueNulls_4 := rg r_ingotlaw14_ValueNulls_4_o [4]
@[go_sem] theorem r_ingotlaw14_ValueNulls_4_u : Gr X K s r_ingotlaw14_ValueNulls_4 r_ingotlaw14_ValueNulls_4_o [4] := go_region _ _
@[go_sem] def r_ingotlaw14_ValueNulls_5_o : Ops := [
oo 18 (.load (some 6) (.t 2)), oo 19 (.build [(.bool false), (.int .i64 0), (.int .i64 0), (.sl []), (.sl [])] [(0, 1, (.c (.bool true)))]), oo 20 (.call false n_value_Check [(.t 18), (.t 19)]), oo 21 (.bin .neq (.t 20) (ci 0)), oo 22 (.mv (.t 21)), og 23 22 false (.load (some 6) (.t 2)), og 24 22 false (.build [(.bool false), (.int .i64 0), (.int .i64 0), (.sl []), (.sl [])] [(0, 1, (.c (.bool true))), (1, 1, (ci 1))]), og 25 22 false (.call false n_value_Check [(.t 23), (.t 24)]), og 26 22 false (.bin .neq (.t 25) (ci 1)), oo 27 (.pick (.t 22) (.c (.bool true)) (.t 26)), oo 28 (.mv (.t 27)), og 29 28 false (.load (some 6) (.t 2)), og 30 28 false (.lit false 1 1 (.int .u8 0) [(0, (.c (.int .u8 1)))]), og 31 28 false (.build [(.bool false), (.int .i64 0), (.int .i64 0), (.sl []), (.sl [])] [(0, 1, (.c (.bool true))), (3, 1, (.t 30))]), og 32 28 false (.call false n_value_Check [(.t 29), (.t 31)]), og 33 28 false (.bin .neq (.t 32) (ci 1)), oo 34 (.pick (.t 28) (.c (.bool true)) (.t 33))]
def r_ingotlaw14_ValueNulls_5 := rg r_ingotlaw14_ValueNulls_5_o [2, 3, 34]
@[go_sem] theorem r_ingotlaw14_ValueNulls_5_u : Gr X K s r_ingotlaw14_ValueNulls_5 r_ingotlaw14_ValueNulls_5_o [2, 3, 34] := go_region _ _
@[go_sem] def r_ingotlaw14_ValueNulls_6_o : Ops := [
oo 4 (.asg (.c (.bool false)))]
def r_ingotlaw14_ValueNulls_6 := rg r_ingotlaw14_ValueNulls_6_o [4]
@[go_sem] theorem r_ingotlaw14_ValueNulls_6_u : Gr X K s r_ingotlaw14_ValueNulls_6 r_ingotlaw14_ValueNulls_6_o [4] := go_region _ _
@[go_sem] def r_ingotlaw14_ValueNulls_7_o : Ops := [
oo 35 (.build [(.int .i64 0), (.sl []), (.sl []), (.int .i64 0), (.int .i64 0), (.int .i64 0)] [(0, 1, (ci 3))]), oo 36 (.build [(.int .i64 0), (.sl []), (.sl []), (.int .i64 0), (.int .i64 0), (.int .i64 0)] [(0, 1, (ci 3))]), oo 37 (.lit false 6 2 (.agg [(.int .i64 0), (.sl []), (.sl []), (.int .i64 0), (.int .i64 0), (.int .i64 0)]) [(0, (.t 35)), (1, (.t 36))]), oo 38 (.build [(.int .i64 0), (.sl []), (.sl []), (.int .i64 0), (.int .i64 0), (.int .i64 0)] [(0, 1, (ci 11)), (2, 1, (.t 37))]), oo 5 (.alloc [(.int .i64 0), .nilS, .nilS, (.int .i64 0), (.int .i64 0), (.int .i64 0)]), ow (.store 6 (.t 5) (.t 38))]
def r_ingotlaw14_ValueNulls_7 := rg r_ingotlaw14_ValueNulls_7_o [2, 3, 5]
@[go_sem] theorem r_ingotlaw14_ValueNulls_7_u : Gr X K s r_ingotlaw14_ValueNulls_7 r_ingotlaw14_ValueNulls_7_o [2, 3, 5] := go_region _ _
@[go_sem] def r_ingotlaw14_ValueNulls_8_o : Ops := [
oo 39 (.load (some 6) (.t 5)), oo 40 (.build [(.bool false), (.int .i64 0), (.int .i64 0), (.sl []), (.sl [])] [(0, 1, (.c (.bool true)))]), oo 41 (.build [(.bool false), (.int .i64 0), (.int .i64 0), (.sl []), (.sl [])] [(1, 1, (ci 1))]), oo 42 (.lit false 5 2 (.agg [(.bool false), (.int .i64 0), (.int .i64 0), (.sl []), (.sl [])]) [(0, (.t 40)), (1, (.t 41))]), oo 43 (.build [(.bool false), (.int .i64 0), (.int .i64 0), (.sl []), (.sl [])] [(4, 1, (.t 42))]), oo 44 (.call false n_value_Check [(.t 39), (.t 43)]), oo 6 (.asg (.t 44))]
def r_ingotlaw14_ValueNulls_8 := rg r_ingotlaw14_ValueNulls_8_o [2, 3, 5, 6]
@[go_sem] theorem r_ingotlaw14_ValueNulls_8_u : Gr X K s r_ingotlaw14_ValueNulls_8 r_ingotlaw14_ValueNulls_8_o [2, 3, 5, 6] := go_region _ _
@[go_sem] def r_ingotlaw14_ValueNulls_9_o : Ops := [
oo 45 (.load (some 6) (.t 5)), oo 46 (.build [(.bool false), (.int .i64 0), (.int .i64 0), (.sl []), (.sl [])] [(1, 1, (ci 1))]), oo 47 (.build [(.bool false), (.int .i64 0), (.int .i64 0), (.sl []), (.sl [])] [(0, 1, (.c (.bool true)))]), oo 48 (.lit false 5 2 (.agg [(.bool false), (.int .i64 0), (.int .i64 0), (.sl []), (.sl [])]) [(0, (.t 46)), (1, (.t 47))]), oo 49 (.build [(.bool false), (.int .i64 0), (.int .i64 0), (.sl []), (.sl [])] [(4, 1, (.t 48))]), oo 50 (.call false n_value_Check [(.t 45), (.t 49)]), oo 7 (.asg (.t 50))]
def r_ingotlaw14_ValueNulls_9 := rg r_ingotlaw14_ValueNulls_9_o [2, 3, 6, 7]
@[go_sem] theorem r_ingotlaw14_ValueNulls_9_u : Gr X K s r_ingotlaw14_ValueNulls_9 r_ingotlaw14_ValueNulls_9_o [2, 3, 6, 7] := go_region _ _
@[go_sem] def r_ingotlaw14_ValueNulls_10_o : Ops := [
oo 51 (.mv (.t 6)), oo 52 (.bin .eql (.t 51) (ci 1)), oo 53 (.mv (.t 52)), og 54 53 true (.mv (.t 7)), og 55 53 true (.bin .eql (.t 54) (ci 0)), oo 56 (.pick (.t 53) (.t 55) (.c (.bool false))), oo 57 (.mv (.t 56)), og 58 57 true (.load (some 6) (.t 2)), og 59 57 true (.build [(.bool false), (.int .i64 0), (.int .i64 0), (.sl []), (.sl [])] [(0, 1, (.c (.bool true)))]), og 60 57 true (.call false n_value_Size [(.t 58), (.t 59)]), og 61 57 true (.bin .eql (.t 60) (ci 1)), oo 62 (.pick (.t 57) (.t 61) (.c (.bool false))), oo 63 (.mv (.t 62)), og 64 63 true (.load (some 6) (.t 2)), og 65 63 true (.build [(.bool false), (.int .i64 0), (.int .i64 0), (.sl []), (.sl [])] [(0, 1, (.c (.bool true)))]), og 66 63 true (.call false n_value_Text [(.t 64), (.t 65)]), og 67 63 true (.bin .eql (.t 66) (.c (.str [110, 117, 108, 108]))), oo 68 (.pick (.t 63) (.t 67) (.c (.bool false))), oo 69 (.mv (.t 68)), og 70 69 true (.load (some 6) (.t 2)), og 71 69 true (.load (some 5) (.t 3)), og 72 69 true (.call false n_ingotref14_Check [(.t 70), (.t 71)]), og 73 69 true (.bin .neq (.t 72) (ci 0)), og 74 69 true (.mv (.t 73)), og 75 74 false (.fieldA 0 (.t 3)), og 76 74 false (.load none (.t 75)), og 77 74 false (.un .not (.t 76)), og 78 69 true (.pick (.t 74) (.c (.bool true)) (.t 77)), og 79 69 true (.mv (.t 78)), og 80 79 false (.load (some 5) (.t 3)), og 81 79 false (.build [(.bool false), (.int .i64 0), (.int .i64 0), (.sl []), (.sl [])] [(0, 1, (.c (.bool true)))]), og 82 79 false (.call false n_ingotref14_Same [(.t 80), (.t 81)]), og 83 69 true (.pick (.t 79) (.c (.bool true)) (.t 82)), oo 84 (.pick (.t 69) (.t 83) (.c (.bool false))), oo 4 (.asg (.t 84))]
def r_ingotlaw14_ValueNulls_10 := rg r_ingotlaw14_ValueNulls_10_o [4]
@[go_sem] theorem r_ingotlaw14_ValueNulls_10_u : Gr X K s r_ingotlaw14_ValueNulls_10 r_ingotlaw14_ValueNulls_10_o [4] := go_region _ _
def c_ingotlaw14_ValueNulls : ICode := (.seq r_ingotlaw14_ValueNulls_0 (.seq r_ingotlaw14_ValueNulls_1 (.cond (.t 9) (.seq r_ingotlaw14_ValueNulls_2 .ret) (.seq r_ingotlaw14_ValueNulls_3 (.cond (.t 17) (.seq r_ingotlaw14_ValueNulls_4 .ret) (.seq r_ingotlaw14_ValueNulls_5 (.cond (.t 34) (.seq r_ingotlaw14_ValueNulls_6 .ret) (.seq r_ingotlaw14_ValueNulls_7 (.seq r_ingotlaw14_ValueNulls_8 (.seq r_ingotlaw14_ValueNulls_9 (.seq r_ingotlaw14_ValueNulls_10 .ret)))))))))))
def i_ingotlaw14_ValueNulls : IFunc := ⟨2, [.t 4], c_ingotlaw14_ValueNulls⟩
def a_ingotlaw14_ValueNulls : Advice := ⟨[], [(10, [4]), (9, [2, 3, 6, 7]), (8, [2, 3, 5, 6]), (7, [2, 3, 5]), (6, [4]), (5, [2, 3, 34]), (4, [4]), (3, [2, 3, 17]), (2, [4]), (1, [2, 3, 9]), (0, [2, 3])], [], [], []⟩
/-! ingot/ingotlaw14.ValueLengths -/
@[go_sem] def r_ingotlaw14_ValueLengths_0_o : Ops := [
oo 4 (.asg (.c (.bool false)))]
def r_ingotlaw14_ValueLengths_0 := rg r_ingotlaw14_ValueLengths_0_o [0, 1]
@[go_sem] theorem r_ingotlaw14_ValueLengths_0_u : Gr X K s r_ingotlaw14_ValueLengths_0 r_ingotlaw14_ValueLengths_0_o [0, 1] := go_region _ _
@[go_sem] def r_ingotlaw14_ValueLengths_1_o : Ops := [
oo 10 (.call false n_ingotlaw14_known []), oo 11 (.un .not (.t 10))]
def r_ingotlaw14_ValueLengths_1 := rg r_ingotlaw14_ValueLengths_1_o [0, 1, 11]
@[go_sem] theorem r_ingotlaw14_ValueLengths_1_u : Gr X K s r_ingotlaw14_ValueLengths_1 r_ingotlaw14_ValueLengths_1_o [0, 1, 11] := go_region _ _
@[go_sem] def r_ingotlaw14_ValueLengths_2_o : Ops := [
oo 4 (.asg (.c (.bool false)))]
def r_ingotlaw14_ValueLengths_2 := rg r_ingotlaw14_ValueLengths_2_o [4]
@[go_sem] theorem r_ingotlaw14_ValueLengths_2_u : Gr X K s r_ingotlaw14_ValueLengths_2 r_ingotlaw14_ValueLengths_2_o [4] := go_region _ _
@[go_sem] def r_ingotlaw14_ValueLengths_3_o : Ops := [
oo 12 (.mv (.t 0)), oo 13 (.len false (.t 12)), oo 14 (.bin .gtr (.t 13) (ci 5000)), oo 15 (.mv (.t 14)), og 16 15 false (.mv (.t 1)), og 17 15 false (.bin .lss (.t 16) (ci 1)), oo 18 (.pick (.t 15) (.c (.bool true)) (.t 17)), oo 19 (.mv (.t 18)), og 20 19 false (.mv (.t 1)), og 21 19 false (.bin .gtr (.t 20) (ci 4096)), oo 22 (.pick (.t 19) (.c (.bool true)) (.t 21))]
def r_ingotlaw14_ValueLengths_3 := rg r_ingotlaw14_ValueLengths_3_o [0, 1, 22]
@[go_sem] theorem r_ingotlaw14_ValueLengths_3_u : Gr X K s r_ingotlaw14_ValueLengths_3 r_ingotlaw14_ValueLengths_3_o [0, 1, 22] := go_region _ _
@[go_sem] def r_ingotlaw14_ValueLengths_4_o : Ops := [
oo 4 (.asg (.c (.bool true)))]
def r_ingotlaw14_ValueLengths_4 := rg r_ingotlaw14_ValueLengths_4_o [4]
@[go_sem] theorem r_ingotlaw14_ValueLengths_4_u : Gr X K s r_ingotlaw14_ValueLengths_4 r_ingotlaw14_ValueLengths_4_o [4] := go_region _ _
@[go_sem] def r_ingotlaw14_ValueLengths_5_o : Ops := [
oo 5 (.asg (ci 0))]
def r_ingotlaw14_ValueLengths_5 := rg r_ingotlaw14_ValueLengths_5_o [0, 1, 5]
@[go_sem] theorem r_ingotlaw14_ValueLengths_5_u : Gr X K s r_ingotlaw14_ValueLengths_5 r_ingotlaw14_ValueLengths_5_o [0, 1, 5] := go_region _ _
@[go_sem] def r_ingotlaw14_ValueLengths_6_o : Ops := [
oo 6 (.asg (ci 0))]
def r_ingotlaw14_ValueLengths_6 := rg r_ingotlaw14_ValueLengths_6_o [0, 1, 5, 6]
@[go_sem] theorem r_ingotlaw14_ValueLengths_6_u : Gr X K s r_ingotlaw14_ValueLengths_6 r_ingotlaw14_ValueLengths_6_o [0, 1, 5, 6] := go_region _ _
@[go_sem] def r_ingotlaw14_ValueLengths_7_o : Ops := [
oo 23 (.mv (.t 6)), oo 24 (.mv (.t 0)), oo 25 (.len false (.t 24)), oo 26 (.bin .lss (.t 23) (.t 25))]
def r_ingotlaw14_ValueLengths_7 := rg r_ingotlaw14_ValueLengths_7_o [0, 1, 5, 6, 26]
@[go_sem] theorem r_ingotlaw14_ValueLengths_7_u : Gr X K s r_ingotlaw14_ValueLengths_7 r_ingotlaw14_ValueLengths_7_o [0, 1, 5, 6, 26] := go_region _ _
@[go_sem] def r_ingotlaw14_ValueLengths_8_o : Ops := [
oo 29 (.mv (.t 0)), oo 30 (.mv (.t 6)), oo 31 (.idxA 1 (.t 29) (.t 30)), oo 32 (.load none (.t 31)), oo 33 (.bin .lss (.t 32) (.c (.int .u8 128))), oo 34 (.mv (.t 33)), og 35 34 false (.mv (.t 0)), og 36 34 false (.mv (.t 6)), og 37 34 false (.idxA 1 (.t 35) (.t 36)), og 38 34 false (.load none (.t 37)), og 39 34 false (.bin .geq (.t 38) (.c (.int .u8 192))), oo 40 (.pick (.t 34) (.c (.bool true)) (.t 39))]
def r_ingotlaw14_ValueLengths_8 := rg r_ingotlaw14_ValueLengths_8_o [0, 1, 5, 6, 40]
@[go_sem] theorem r_ingotlaw14_ValueLengths_8_u : Gr X K s r_ingotlaw14_ValueLengths_8 r_ingotlaw14_ValueLengths_8_o [0, 1, 5, 6, 40] := go_region _ _
@[go_sem] def r_ingotlaw14_ValueLengths_9_o : Ops := [
oo 41 (.mv (.t 5)), oo 42 (.bin .add (.t 41) (ci 1)), oo 5 (.asg (.t 42))]
def r_ingotlaw14_ValueLengths_9 := rg r_ingotlaw14_ValueLengths_9_o [0, 1, 5, 6]
@[go_sem] theorem r_ingotlaw14_ValueLengths_9_u : Gr X K s r_ingotlaw14_ValueLengths_9 r_ingotlaw14_ValueLengths_9_o [0, 1, 5, 6] := go_region _ _
@[go_sem] def r_ingotlaw14_ValueLengths_10_o : Ops := [
oo 27 (.mv (.t 6)), oo 28 (.bin .add (.t 27) (ci 1)), oo 6 (.asg (.t 28))]
def r_ingotlaw14_ValueLengths_10 := rg r_ingotlaw14_ValueLengths_10_o [0, 1, 5, 6]
@[go_sem] theorem r_ingotlaw14_ValueLengths_10_u : Gr X K s r_ingotlaw14_ValueLengths_10 r_ingotlaw14_ValueLengths_10_o [0, 1, 5, 6] := go_region _ _
def b_ingotlaw14_ValueLengths_11 : ICode := (.seq (.seq r_ingotlaw14_ValueLengths_7 (.cond (.t 26) .skip (.exit 0))) (.seq (.block 1 (.seq r_ingotlaw14_ValueLengths_8 (.cond (.t 40) r_ingotlaw14_ValueLengths_9 .skip))) r_ingotlaw14_ValueLengths_10))
@[go_sem] theorem b_ingotlaw14_ValueLengths_11_u : Gn X K s b_ingotlaw14_ValueLengths_11 (.seq (.seq r_ingotlaw14_ValueLengths_7 (.cond (.t 26) .skip (.exit 0))) (.seq (.block 1 (.seq r_ingotlaw14_ValueLengths_8 (.cond (.t 40) r_ingotlaw14_ValueLengths_9 .skip))) r_ingotlaw14_ValueLengths_10)) := rfl
@[go_sem] def r_ingotlaw14_ValueLengths_12_o : Ops := [
oo 43 (.mv (.t 0)), oo 44 (.build [(.bool false), (.int .i64 0), (.int .i64 0), (.sl []), (.sl [])] [(3, 1, (.t 43))]), oo 7 (.alloc [(.bool false), (.int .i64 0), (.int .i64 0), .nilS, .nilS]), ow (.store 5 (.t 7) (.t 44))]
def r_ingotlaw14_ValueLengths_12 := rg r_ingotlaw14_ValueLengths_12_o [0, 1, 5, 7]
@[go_sem] theorem r_ingotlaw14_ValueLengths_12_u : Gr X K s r_ingotlaw14_ValueLengths_12 r_ingotlaw14_ValueLengths_12_o [0, 1, 5, 7] := go_region _ _
@[go_sem] def r_ingotlaw14_ValueLengths_13_o : Ops := [
oo 45 (.mv (.t 1)), oo 46 (.build [(.int .i64 0), (.sl []), (.sl []), (.int .i64 0), (.int .i64 0), (.int .i64 0)] [(0, 1, (ci 16)), (3, 1, (.t 45))]), oo 47 (.load (some 5) (.t 7)), oo 48 (.call false n_value_Check [(.t 46), (.t 47)]), oo 8 (.asg (.t 48))]
def r_ingotlaw14_ValueLengths_13 := rg r_ingotlaw14_ValueLengths_13_o [0, 1, 5, 7, 8]
@[go_sem] theorem r_ingotlaw14_ValueLengths_13_u : Gr X K s r_ingotlaw14_ValueLengths_13 r_ingotlaw14_ValueLengths_13_o [0, 1, 5, 7, 8] := go_region _ _
@[go_sem] def r_ingotlaw14_ValueLengths_14_o : Ops := [
oo 49 (.build [(.int .i64 0), (.sl []), (.sl []), (.int .i64 0), (.int .i64 0), (.int .i64 0)] [(0, 1, (ci 8))]), oo 50 (.load (some 5) (.t 7)), oo 51 (.call false n_value_Check [(.t 49), (.t 50)]), oo 9 (.asg (.t 51))]
def r_ingotlaw14_ValueLengths_14 := rg r_ingotlaw14_ValueLengths_14_o [0, 1, 5, 8, 9]
@[go_sem] theorem r_ingotlaw14_ValueLengths_14_u : Gr X K s r_ingotlaw14_ValueLengths_14 r_ingotlaw14_ValueLengths_14_o [0, 1, 5, 8, 9] := go_region _ _
@[go_sem] def r_ingotlaw14_ValueLengths_15_o : Ops := [
oo 52 (.mv (.t 0)), oo 53 (.call false n_value_Signs [(.t 52)]), oo 54 (.mv (.t 5)), oo 55 (.bin .eql (.t 53) (.t 54)), oo 56 (.mv (.t 55)), og 57 56 true (.mv (.t 8)), og 58 56 true (.bin .eql (.t 57) (ci 0)), og 59 56 true (.mv (.t 5)), og 60 56 true (.mv (.t 1)), og 61 56 true (.bin .leq (.t 59) (.t 60)), og 62 56 true (.mv (.t 61)), og 63 62 true (.mv (.t 0)), og 64 62 true (.len false (.t 63)), og 65 62 true (.bin .leq (.t 64) (ci 4096)), og 66 56 true (.pick (.t 62) (.t 65) (.c (.bool false))), og 67 56 true (.eqn false .bool (.t 58) (.t 66)), oo 68 (.pick (.t 56) (.t 67) (.c (.bool false))), oo 69 (.mv (.t 68)), og 70 69 true (.mv (.t 9)), og 71 69 true (.bin .eql (.t 70) (ci 0)), og 72 69 true (.mv (.t 0)), og 73 69 true (.len false (.t 72)), og 74 69 true (.bin .leq (.t 73) (ci 4096)), og 75 69 true (.eqn false .bool (.t 71) (.t 74)), oo 76 (.pick (.t 69) (.t 75) (.c (.bool false))), oo 77 (.mv (.t 76)), og 78 77 true (.mv (.t 8)), og 79 77 true (.bin .eql (.t 78) (ci 0)), og 80 77 true (.mv (.t 79)), og 81 80 false (.mv (.t 8)), og 82 80 false (.bin .eql (.t 81) (ci 4)), og 83 77 true (.pick (.t 80) (.c (.bool true)) (.t 82)), oo 84 (.pick (.t 77) (.t 83) (.c (.bool false))), oo 85 (.mv (.t 84)), og 86 85 true (.mv (.t 9)), og 87 85 true (.bin .eql (.t 86) (ci 0)), og 88 85 true (.mv (.t 87)), og 89 88 false (.mv (.t 9)), og 90 88 false (.bin .eql (.t 89) (ci 4)), og 91 85 true (.pick (.t 88) (.c (.bool true)) (.t 90)), oo 92 (.pick (.t 85) (.t 91) (.c (.bool false))), oo 4 (.asg (.t 92))]
def r_ingotlaw14_ValueLengths_15 := rg r_ingotlaw14_ValueLengths_15_o [4]
@[go_sem] theorem r_ingotlaw14_ValueLengths_15_u : Gr X K s r_ingotlaw14_ValueLengths_15 r_ingotlaw14_ValueLengths_15_o [4] := go_region _ _
def c_ingotlaw14_ValueLengths : ICode := (.seq r_ingotlaw14_ValueLengths_0 (.seq r_ingotlaw14_ValueLengths_1 (.cond (.t 11) (.seq r_ingotlaw14_ValueLengths_2 .ret) (.seq r_ingotlaw14_ValueLengths_3 (.cond (.t 22) (.seq r_ingotlaw14_ValueLengths_4 .ret) (.seq r_ingotlaw14_ValueLengths_5 (.seq (.seq r_ingotlaw14_ValueLengths_6 (.block 0 (.loop b_ingotlaw14_ValueLengths_11))) (.seq r_ingotlaw14_ValueLengths_12 (.seq r_ingotlaw14_ValueLengths_13 (.seq r_ingotlaw14_ValueLengths_14 (.seq r_ingotlaw14_ValueLengths_15 .ret)))))))))))
def i_ingotlaw14_ValueLengths : IFunc := ⟨2, [.t 4], c_ingotlaw14_ValueLengths⟩
def a_ingotlaw14_ValueLengths : Advice := ⟨[], [(14, [4]), (13, [0, 1, 5, 8, 9]), (12, [0, 1, 5, 7, 8]), (11, [0, 1, 5, 7]), (8, [0, 1, 5, 6]), (10, [0, 1, 5, 6]), (9, [0, 1, 5, 6, 40]), (7, [0, 1, 5, 6, 26]), (6, [0, 1, 5, 6]), (5, [0, 1, 5]), (4, [4]), (3, [0, 1, 22]), (2, [4]), (1, [0, 1, 11]), (0, [0, 1])], [], [], []⟩
/-! ingot/ingotlaw14.ValueRanges -/
@[go_sem] def r_ingotlaw14_ValueRanges_0_o : Ops := [
oo 4 (.asg (.c (.bool false)))]
def r_ingotlaw14_ValueRanges_0 := rg r_ingotlaw14_ValueRanges_0_o [0, 1]
@[go_sem] theorem r_ingotlaw14_ValueRanges_0_u : Gr X K s r_ingotlaw14_ValueRanges_0 r_ingotlaw14_ValueRanges_0_o [0, 1] := go_region _ _
@[go_sem] def r_ingotlaw14_ValueRanges_1_o : Ops := [
oo 7 (.call false n_ingotlaw14_known []), oo 8 (.un .not (.t 7))]
def r_ingotlaw14_ValueRanges_1 := rg r_ingotlaw14_ValueRanges_1_o [0, 1, 8]
@[go_sem] theorem r_ingotlaw14_ValueRanges_1_u : Gr X K s r_ingotlaw14_ValueRanges_1 r_ingotlaw14_ValueRanges_1_o [0, 1, 8] := go_region _ _
@[go_sem] def r_ingotlaw14_ValueRanges_2_o : Ops := [
oo 4 (.asg (.c (.bool false)))]
def r_ingotlaw14_ValueRanges_2 := rg r_ingotlaw14_ValueRanges_2_o [4]
@[go_sem] theorem r_ingotlaw14_ValueRanges_2_u : Gr X K s r_ingotlaw14_ValueRanges_2 r_ingotlaw14_ValueRanges_2_o [4] := go_region _ _
@[go_sem] def r_ingotlaw14_ValueRanges_3_o : Ops := [
oo 5 (.asg (ci 0))]
def r_ingotlaw14_ValueRanges_3 := rg r_ingotlaw14_ValueRanges_3_o [0, 1]
@[go_sem] theorem r_ingotlaw14_ValueRanges_3_u : Gr X K s r_ingotlaw14_ValueRanges_3 r_ingotlaw14_ValueRanges_3_o [0, 1] := go_region _ _
@[go_sem] def r_ingotlaw14_ValueRanges_4_o : Ops := [
oo 9 (.mv (.t 0))]
def r_ingotlaw14_ValueRanges_4 := rg r_ingotlaw14_ValueRanges_4_o [0, 1, 9]
@[go_sem] theorem r_ingotlaw14_ValueRanges_4_u : Gr X K s r_ingotlaw14_ValueRanges_4 r_ingotlaw14_ValueRanges_4_o [0, 1, 9] := go_region _ _
@[go_sem] def r_ingotlaw14_ValueRanges_5_o : Ops := [
oo 11 (.bin .eql (.t 9) (ci 1)), oo 10 (.asg (.t 11))]
def r_ingotlaw14_ValueRanges_5 := rg r_ingotlaw14_ValueRanges_5_o [0, 1, 9, 10]
@[go_sem] theorem r_ingotlaw14_ValueRanges_5_u : Gr X K s r_ingotlaw14_ValueRanges_5 r_ingotlaw14_ValueRanges_5_o [0, 1, 9, 10] := go_region _ _
@[go_sem] def r_ingotlaw14_ValueRanges_6_o : Ops := [
oo 5 (.asg (ci 8))]
def r_ingotlaw14_ValueRanges_6 := rg r_ingotlaw14_ValueRanges_6_o [0, 1, 5]
@[go_sem] theorem r_ingotlaw14_ValueRanges_6_u : Gr X K s r_ingotlaw14_ValueRanges_6 r_ingotlaw14_ValueRanges_6_o [0, 1, 5] := go_region _ _
@[go_sem] def r_ingotlaw14_ValueRanges_7_o : Ops := [
oo 13 (.bin .eql (.t 9) (ci 2)), oo 12 (.asg (.t 13))]
def r_ingotlaw14_ValueRanges_7 := rg r_ingotlaw14_ValueRanges_7_o [0, 1, 9, 12]
@[go_sem] theorem r_ingotlaw14_ValueRanges_7_u : Gr X K s r_ingotlaw14_ValueRanges_7 r_ingotlaw14_ValueRanges_7_o [0, 1, 9, 12] := go_region _ _
@[go_sem] def r_ingotlaw14_ValueRanges_8_o : Ops := [
oo 5 (.asg (ci 16))]
def r_ingotlaw14_ValueRanges_8 := rg r_ingotlaw14_ValueRanges_8_o [0, 1, 5]
@[go_sem] theorem r_ingotlaw14_ValueRanges_8_u : Gr X K s r_ingotlaw14_ValueRanges_8 r_ingotlaw14_ValueRanges_8_o [0, 1, 5] := go_region _ _
@[go_sem] def r_ingotlaw14_ValueRanges_9_o : Ops := [
oo 15 (.bin .eql (.t 9) (ci 3)), oo 14 (.asg (.t 15))]
def r_ingotlaw14_ValueRanges_9 := rg r_ingotlaw14_ValueRanges_9_o [0, 1, 9, 14]
@[go_sem] theorem r_ingotlaw14_ValueRanges_9_u : Gr X K s r_ingotlaw14_ValueRanges_9 r_ingotlaw14_ValueRanges_9_o [0, 1, 9, 14] := go_region _ _
@[go_sem] def r_ingotlaw14_ValueRanges_10_o : Ops := [
oo 16 (.bin .eql (.t 9) (ci 15)), oo 14 (.asg (.t 16))]
def r_ingotlaw14_ValueRanges_10 := rg r_ingotlaw14_ValueRanges_10_o [0, 1, 9, 14]
@[go_sem] theorem r_ingotlaw14_ValueRanges_10_u : Gr X K s r_ingotlaw14_ValueRanges_10 r_ingotlaw14_ValueRanges_10_o [0, 1, 9, 14] := go_region _ _
@[go_sem] def r_ingotlaw14_ValueRanges_11_o : Ops := [
oo 5 (.asg (ci 32))]
def r_ingotlaw14_ValueRanges_11 := rg r_ingotlaw14_ValueRanges_11_o [0, 1, 5]
@[go_sem] theorem r_ingotlaw14_ValueRanges_11_u : Gr X K s r_ingotlaw14_ValueRanges_11 r_ingotlaw14_ValueRanges_11_o [0, 1, 5] := go_region _ _
@[go_sem] def r_ingotlaw14_ValueRanges_12_o : Ops := [
oo 18 (.bin .eql (.t 9) (ci 4)), oo 17 (.asg (.t 18))]
def r_ingotlaw14_ValueRanges_12 := rg r_ingotlaw14_ValueRanges_12_o [0, 1, 17]
@[go_sem] theorem r_ingotlaw14_ValueRanges_12_u : Gr X K s r_ingotlaw14_ValueRanges_12 r_ingotlaw14_ValueRanges_12_o [0, 1, 17] := go_region _ _
@[go_sem] def r_ingotlaw14_ValueRanges_13_o : Ops := [
oo 19 (.mv (.t 0)), oo 20 (.build [(.int .i64 0), (.sl []), (.sl []), (.int .i64 0), (.int .i64 0), (.int .i64 0)] [(0, 1, (.t 19))]), oo 21 (.mv (.t 1)), oo 22 (.build [(.bool false), (.int .i64 0), (.int .i64 0), (.sl []), (.sl [])] [(1, 1, (.t 21))]), oo 23 (.call false n_value_Check [(.t 20), (.t 22)]), oo 24 (.bin .eql (.t 23) (ci 0)), oo 4 (.asg (.t 24))]
def r_ingotlaw14_ValueRanges_13 := rg r_ingotlaw14_ValueRanges_13_o [4]
@[go_sem] theorem r_ingotlaw14_ValueRanges_13_u : Gr X K s r_ingotlaw14_ValueRanges_13 r_ingotlaw14_ValueRanges_13_o [4] := go_region _ _
@[go_sem] def r_ingotlaw14_ValueRanges_14_o : Ops := [
oo 4 (.asg (.c (.bool true)))]
def r_ingotlaw14_ValueRanges_14 := rg r_ingotlaw14_ValueRanges_14_o [4]
@[go_sem] theorem r_ingotlaw14_ValueRanges_14_u : Gr X K s r_ingotlaw14_ValueRanges_14 r_ingotlaw14_ValueRanges_14_o [4] := go_region _ _
@[go_sem] def r_ingotlaw14_ValueRanges_15_o : Ops := [
oo 25 (.mv (.t 1)), oo 26 (.mv (.t 5)), oo 27 (.bin .sub (.t 26) (ci 1)), oo 28 (.cvInt .u64 (.t 27)), oo 29 (.bin .shl (ci 1) (.t 28)), oo 30 (.bin .sub (ci 0) (.t 29)), oo 31 (.bin .geq (.t 25) (.t 30)), oo 32 (.mv (.t 31)), og 33 32 true (.mv (.t 1)), og 34 32 true (.mv (.t 5)), og 35 32 true (.bin .sub (.t 34) (ci 1)), og 36 32 true (.cvInt .u64 (.t 35)), og 37 32 true (.bin .shl (ci 1) (.t 36)), og 38 32 true (.bin .lss (.t 33) (.t 37)), oo 39 (.pick (.t 32) (.t 38) (.c (.bool false))), oo 6 (.asg (.t 39))]
def r_ingotlaw14_ValueRanges_15 := rg r_ingotlaw14_ValueRanges_15_o [0, 1, 6]
@[go_sem] theorem r_ingotlaw14_ValueRanges_15_u : Gr X K s r_ingotlaw14_ValueRanges_15 r_ingotlaw14_ValueRanges_15_o [0, 1, 6] := go_region _ _
@[go_sem] def r_ingotlaw14_ValueRanges_16_o : Ops := [
oo 40 (.mv (.t 0)), oo 41 (.build [(.int .i64 0), (.sl []), (.sl []), (.int .i64 0), (.int .i64 0), (.int .i64 0)] [(0, 1, (.t 40))]), oo 42 (.mv (.t 1)), oo 43 (.build [(.bool false), (.int .i64 0), (.int .i64 0), (.sl []), (.sl [])] [(1, 1, (.t 42))]), oo 44 (.call false n_value_Check [(.t 41), (.t 43)]), oo 45 (.bin .eql (.t 44) (ci 0)), oo 46 (.mv (.t 6)), oo 47 (.eqn false .bool (.t 45) (.t 46)), oo 48 (.mv (.t 47)), og 49 48 true (.mv (.t 6)), og 50 48 true (.mv (.t 49)), og 51 50 false (.mv (.t 0)), og 52 50 false (.build [(.int .i64 0), (.sl []), (.sl []), (.int .i64 0), (.int .i64 0), (.int .i64 0)] [(0, 1, (.t 51))]), og 53 50 false (.mv (.t 1)), og 54 50 false (.build [(.bool false), (.int .i64 0), (.int .i64 0), (.sl []), (.sl [])] [(1, 1, (.t 53))]), og 55 50 false (.call false n_value_Check [(.t 52), (.t 54)]), og 56 50 false (.bin .eql (.t 55) (ci 1)), og 57 48 true (.pick (.t 50) (.c (.bool true)) (.t 56)), oo 58 (.pick (.t 48) (.t 57) (.c (.bool false))), oo 4 (.asg (.t 58))]
def r_ingotlaw14_ValueRanges_16 := rg r_ingotlaw14_ValueRanges_16_o [4]
@[go_sem] theorem r_ingotlaw14_ValueRanges_16_u : Gr X K s r_ingotlaw14_ValueRanges_16 r_ingotlaw14_ValueRanges_16_o [4] := go_region _ _
def c_ingotlaw14_ValueRanges : ICode := (.seq r_ingotlaw14_ValueRanges_0 (.seq r_ingotlaw14_ValueRanges_1 (.cond (.t 8) (.seq r_ingotlaw14_ValueRanges_2 .ret) (.seq r_ingotlaw14_ValueRanges_3 (.seq (.seq r_ingotlaw14_ValueRanges_4 (.block 0 (.seq r_ingotlaw14_ValueRanges_5 (.cond (.t 10) r_ingotlaw14_ValueRanges_6 (.seq r_ingotlaw14_ValueRanges_7 (.cond (.t 12) r_ingotlaw14_ValueRanges_8 (.seq (.seq r_ingotlaw14_ValueRanges_9 (.cond (.t 14) .skip r_ingotlaw14_ValueRanges_10)) (.cond (.t 14) r_ingotlaw14_ValueRanges_11 (.seq r_ingotlaw14_ValueRanges_12 (.cond (.t 17) (.seq r_ingotlaw14_ValueRanges_13 .ret) (.seq r_ingotlaw14_ValueRanges_14 .ret))))))))))) (.seq r_ingotlaw14_ValueRanges_15 (.seq r_ingotlaw14_ValueRanges_16 .ret)))))))
def i_ingotlaw14_ValueRanges : IFunc := ⟨2, [.t 4], c_ingotlaw14_ValueRanges⟩
def a_ingotlaw14_ValueRanges : Advice := ⟨[], [(16, [4]), (15, [0, 1, 6]), (7, [0, 1, 5]), (9, [0, 1, 5]), (12, [0, 1, 5]), (14, [4]), (5, [4]), (13, [0, 1, 17]), (11, [0, 1, 9, 14]), (10, [0, 1, 9, 14]), (8, [0, 1, 9, 12]), (6, [0, 1, 9, 10]), (4, [0, 1, 9]), (3, [0, 1]), (2, [4]), (1, [0, 1, 8]), (0, [0, 1])], [], [], []⟩
/-! ingot/ingotlaw14.ValueCopies -/
@[go_sem] def r_ingotlaw14_ValueCopies_0_o : Ops := [
oo 2 (.box 6 (.t 0)), oo 3 (.box 5 (.t 1)), oo 4 (.asg (.c (.bool false)))]
def r_ingotlaw14_ValueCopies_0 := rg r_ingotlaw14_ValueCopies_0_o [2, 3]
@[go_sem] theorem r_ingotlaw14_ValueCopies_0_u : Gr X K s r_ingotlaw14_ValueCopies_0 r_ingotlaw14_ValueCopies_0_o [2, 3] := go_region _ _
@[go_sem] def r_ingotlaw14_ValueCopies_1_o : Ops := [
oo 7 (.call false n_ingotlaw14_known []), oo 8 (.un .not (.t 7))]
def r_ingotlaw14_ValueCopies_1 := rg r_ingotlaw14_ValueCopies_1_o [2, 3, 8]
@[go_sem] theorem r_ingotlaw14_ValueCopies_1_u : Gr X K s r_ingotlaw14_ValueCopies_1 r_ingotlaw14_ValueCopies_1_o [2, 3, 8] := go_region _ _
@[go_sem] def r_ingotlaw14_ValueCopies_2_o : Ops := [
oo 4 (.asg (.c (.bool false)))]
def r_ingotlaw14_ValueCopies_2 := rg r_ingotlaw14_ValueCopies_2_o [4]
@[go_sem] theorem r_ingotlaw14_ValueCopies_2_u : Gr X K s r_ingotlaw14_ValueCopies_2 r_ingotlaw14_ValueCopies_2_o [4] := go_region _ _
@[go_sem] def r_ingotlaw14_ValueCopies_3_o : Ops := [
oo 9 (.load (some 6) (.t 2)), oo 10 (.call false n_ingotlaw14_Right [(.t 9)]), oo 11 (.un .not (.t 10)), oo 12 (.mv (.t 11)), og 13 12 false (.load (some 5) (.t 3)), og 14 12 false (.call false n_ingotlaw14_Few [(.t 13)]), og 15 12 false (.un .not (.t 14)), oo 16 (.pick (.t 12) (.c (.bool true)) (.t 15)), oo 17 (.mv (.t 16)), og 18 17 false (.load (some 6) (.t 2)), og 19 17 false (.load (some 5) (.t 3)), og 20 17 false (.call false n_ingotref14_Check [(.t 18), (.t 19)]), og 21 17 false (.bin .neq (.t 20) (ci 0)), oo 22 (.pick (.t 17) (.c (.bool true)) (.t 21))]
def r_ingotlaw14_ValueCopies_3 := rg r_ingotlaw14_ValueCopies_3_o [3, 22]
@[go_sem] theorem r_ingotlaw14_ValueCopies_3_u : Gr X K s r_ingotlaw14_ValueCopies_3 r_ingotlaw14_ValueCopies_3_o [3, 22] := go_region _ _
@[go_sem] def r_ingotlaw14_ValueCopies_4_o : Ops := [
oo 4 (.asg (.c (.bool true)))]
def r_ingotlaw14_ValueCopies_4 := rg r_ingotlaw14_ValueCopies_4_o [4]
@[go_sem] theorem r_ingotlaw14_ValueCopies_4_u : Gr X K s r_ingotlaw14_ValueCopies_4 r_ingotlaw14_ValueCopies_4_o [4] := go_region _ _
@[go_sem] def r_ingotlaw14_ValueCopies_5_o : Ops := [
oo 23 (.load (some 5) (.t 3)), oo 24 (.call false n_value_Clone [(.t 23)]), oo 5 (.alloc [(.bool false), (.int .i64 0), (.int .i64 0), .nilS, .nilS]), ow (.store 5 (.t 5) (.t 24))]
def r_ingotlaw14_ValueCopies_5 := rg r_ingotlaw14_ValueCopies_5_o [3, 5]
@[go_sem] theorem r_ingotlaw14_ValueCopies_5_u : Gr X K s r_ingotlaw14_ValueCopies_5 r_ingotlaw14_ValueCopies_5_o [3, 5] := go_region _ _
@[go_sem] def r_ingotlaw14_ValueCopies_6_o : Ops := [
oo 25 (.load (some 5) (.t 3)), oo 26 (.call false n_value_Clone [(.t 25)]), oo 6 (.alloc [(.bool false), (.int .i64 0), (.int .i64 0), .nilS, .nilS]), ow (.store 5 (.t 6) (.t 26))]
def r_ingotlaw14_ValueCopies_6 := rg r_ingotlaw14_ValueCopies_6_o [3, 5, 6]
@[go_sem] theorem r_ingotlaw14_ValueCopies_6_u : Gr X K s r_ingotlaw14_ValueCopies_6 r_ingotlaw14_ValueCopies_6_o [3, 5, 6] := go_region _ _
@[go_sem] def r_ingotlaw14_ValueCopies_7_o : Ops := [
oo 27 (.call false n_ingotlaw14_spoil [(.t 6)])]
def r_ingotlaw14_ValueCopies_7 := rg r_ingotlaw14_ValueCopies_7_o [3, 5]
@[go_sem] theorem r_ingotlaw14_ValueCopies_7_u : Gr X K s r_ingotlaw14_ValueCopies_7 r_ingotlaw14_ValueCopies_7_o [3, 5] := go_region _ _
@[go_sem] def r_ingotlaw14_ValueCopies_8_o : Ops := [
oo 28 (.load (some 5) (.t 5)), oo 29 (.load (some 5) (.t 3)), oo 30 (.call false n_ingotref14_Same [(.t 28), (.t 29)]), oo 31 (.mv (.t 30)), og 32 31 true (.fieldA 0 (.t 3)), og 33 31 true (.load none (.t 32)), og 34 31 true (.mv (.t 33)), og 35 34 false (.load (some 5) (.t 3)), og 36 34 false (.call false n_value_Clone [(.t 35)]), og 37 34 false (.load (some 5) (.t 3)), og 38 34 false (.call false n_ingotref14_Same [(.t 36), (.t 37)]), og 39 31 true (.pick (.t 34) (.c (.bool true)) (.t 38)), oo 40 (.pick (.t 31) (.t 39) (.c (.bool false))), oo 4 (.asg (.t 40))]
def r_ingotlaw14_ValueCopies_8_n : List (Nat × Nat) := [(0, 1), (7, 9), (8, 9)]
def r_ingotlaw14_ValueCopies_8 : ICode := .region r_ingotlaw14_ValueCopies_8_o r_ingotlaw14_ValueCopies_8_n [4]
@[go_sem] theorem r_ingotlaw14_ValueCopies_8_u : go X (.c r_ingotlaw14_ValueCopies_8 :: K) s = goRU X [] r_ingotlaw14_ValueCopies_8_n r_ingotlaw14_ValueCopies_8_o [4] K s := go_regionU' _ _ _ _
def c_ingotlaw14_ValueCopies : ICode := (.seq r_ingotlaw14_ValueCopies_0 (.seq r_ingotlaw14_ValueCopies_1 (.cond (.t 8) (.seq r_ingotlaw14_ValueCopies_2 .ret) (.seq r_ingotlaw14_ValueCopies_3 (.cond (.t 22) (.seq r_ingotlaw14_ValueCopies_4 .ret) (.seq r_ingotlaw14_ValueCopies_5 (.seq r_ingotlaw14_ValueCopies_6 (.seq r_ingotlaw14_ValueCopies_7 (.seq r_ingotlaw14_ValueCopies_8 .ret)))))))))
def i_ingotlaw14_ValueCopies : IFunc := ⟨2, [.t 4], c_ingotlaw14_ValueCopies⟩
def a_ingotlaw14_ValueCopies : Advice := ⟨[], [(8, [4]), (7, [3, 5]), (6, [3, 5, 6]), (5, [3, 5]), (4, [4]), (3, [3, 22]), (2, [4]), (1, [2, 3, 8]), (0, [2, 3])], [], [], []⟩
/-! ingot/ingotref14.Project -/
@[go_sem] def r_ingotref14_Project_0_o : Ops := [
oo 7 (.box 5 (.t 3)), oo 8 (.alloc [(.bool false), (.int .i64 0), (.int .i64 0), .nilS, .nilS])]
def r_ingotref14_Project_0 := rg r_ingotref14_Project_0_o [0, 1, 2, 7, 8]
@[go_sem] theorem r_ingotref14_Project_0_u : Gr X K s r_ingotref14_Project_0 r_ingotref14_Project_0_o [0, 1, 2, 7, 8] := go_region _ _
@[go_sem] def r_ingotref14_Project_1_o : Ops := [
oo 12 (.fieldA 0 (.t 7)), oo 13 (.load none (.t 12)), oo 14 (.mv (.t 13)), og 15 14 false (.mv (.t 0)), og 16 14 false (.mv (.t 2)), og 17 14 false (.idxA 9 (.t 15) (.t 16)), og 18 14 false (.fieldA 0 (.t 17)), og 19 14 false (.fieldA 0 (.t 18)), og 20 14 false (.load none (.t 19)), og 21 14 false (.bin .neq (.t 20) (ci 12)), oo 22 (.pick (.t 14) (.c (.bool true)) (.t 21))]
def r_ingotref14_Project_1 := rg r_ingotref14_Project_1_o [0, 1, 2, 7, 8, 22]
@[go_sem] theorem r_ingotref14_Project_1_u : Gr X K s r_ingotref14_Project_1 r_ingotref14_Project_1_o [0, 1, 2, 7, 8, 22] := go_region _ _
@[go_sem] def r_ingotref14_Project_2_o : Ops := [
oo 23 (.load (some 5) (.t 7)), ow (.store 5 (.t 8) (.t 23))]
def r_ingotref14_Project_2 := rg r_ingotref14_Project_2_o [8]
@[go_sem] theorem r_ingotref14_Project_2_u : Gr X K s r_ingotref14_Project_2 r_ingotref14_Project_2_o [8] := go_region _ _
@[go_sem] def r_ingotref14_Project_3_o : Ops := [
oo 24 (.build [(.bool false), (.int .i64 0), (.int .i64 0), (.sl []), (.sl [])] []), oo 9 (.alloc [(.bool false), (.int .i64 0), (.int .i64 0), .nilS, .nilS]), ow (.store 5 (.t 9) (.t 24))]
def r_ingotref14_Project_3 := rg r_ingotref14_Project_3_o [0, 1, 2, 7, 8, 9]
@[go_sem] theorem r_ingotref14_Project_3_u : Gr X K s r_ingotref14_Project_3 r_ingotref14_Project_3_o [0, 1, 2, 7, 8, 9] := go_region _ _
@[go_sem] def r_ingotref14_Project_4_o : Ops := [
oo 10 (.asg (ci 0))]
def r_ingotref14_Project_4 := rg r_ingotref14_Project_4_o [0, 1, 2, 7, 8, 9, 10]
@[go_sem] theorem r_ingotref14_Project_4_u : Gr X K s r_ingotref14_Project_4 r_ingotref14_Project_4_o [0, 1, 2, 7, 8, 9, 10] := go_region _ _
@[go_sem] def r_ingotref14_Project_5_o : Ops := [
oo 25 (.mv (.t 10)), oo 26 (.mv (.t 0)), oo 27 (.mv (.t 2)), oo 28 (.idxA 9 (.t 26) (.t 27)), oo 29 (.fieldA 6 (.t 28)), oo 30 (.load none (.t 29)), oo 31 (.len false (.t 30)), oo 32 (.bin .lss (.t 25) (.t 31)), oo 33 (.mv (.t 32)), og 34 33 true (.mv (.t 10)), og 35 33 true (.fieldA 4 (.t 7)), og 36 33 true (.load none (.t 35)), og 37 33 true (.len false (.t 36)), og 38 33 true (.bin .lss (.t 34) (.t 37)), oo 39 (.pick (.t 33) (.t 38) (.c (.bool false)))]
def r_ingotref14_Project_5 := rg r_ingotref14_Project_5_o [0, 1, 2, 7, 8, 9, 10, 39]
@[go_sem] theorem r_ingotref14_Project_5_u : Gr X K s r_ingotref14_Project_5 r_ingotref14_Project_5_o [0, 1, 2, 7, 8, 9, 10, 39] := go_region _ _
@[go_sem] def r_ingotref14_Project_6_o : Ops := [
oo 42 (.mv (.t 0)), oo 43 (.mv (.t 2)), oo 44 (.idxA 9 (.t 42) (.t 43)), oo 45 (.fieldA 6 (.t 44)), oo 46 (.load none (.t 45)), oo 47 (.mv (.t 10)), oo 48 (.idxA 1 (.t 46) (.t 47)), oo 49 (.load none (.t 48)), oo 11 (.asg (.t 49))]
def r_ingotref14_Project_6 := rg r_ingotref14_Project_6_o [0, 1, 2, 7, 8, 9, 10, 11]
@[go_sem] theorem r_ingotref14_Project_6_u : Gr X K s r_ingotref14_Project_6 r_ingotref14_Project_6_o [0, 1, 2, 7, 8, 9, 10, 11] := go_region _ _
@[go_sem] def r_ingotref14_Project_7_o : Ops := [
oo 50 (.mv (.t 11)), oo 51 (.mv (.t 1)), oo 52 (.len false (.t 51)), oo 53 (.bin .lss (.t 50) (.t 52)), oo 54 (.mv (.t 53)), og 55 54 true (.mv (.t 1)), og 56 54 true (.mv (.t 11)), og 57 54 true (.idxA 1 (.t 55) (.t 56)), og 58 54 true (.load none (.t 57)), oo 59 (.pick (.t 54) (.t 58) (.c (.bool false)))]
def r_ingotref14_Project_7 := rg r_ingotref14_Project_7_o [0, 1, 2, 7, 8, 9, 10, 11, 59]
@[go_sem] theorem r_ingotref14_Project_7_u : Gr X K s r_ingotref14_Project_7 r_ingotref14_Project_7_o [0, 1, 2, 7, 8, 9, 10, 11, 59] := go_region _ _
@[go_sem] def r_ingotref14_Project_8_o : Ops := [
oo 60 (.fieldA 4 (.t 9)), oo 61 (.load none (.t 60)), oo 62 (.mv (.t 0)), oo 63 (.mv (.t 1)), oo 64 (.mv (.t 11)), oo 65 (.fieldA 4 (.t 7)), oo 66 (.load none (.t 65)), oo 67 (.mv (.t 10)), oo 68 (.idxA 5 (.t 66) (.t 67)), oo 69 (.load (some 5) (.t 68)), oo 70 (.call false n_ingotref14_Project [(.t 62), (.t 63), (.t 64), (.t 69)]), oo 71 (.lit false 5 1 (.agg [(.bool false), (.int .i64 0), (.int .i64 0), (.sl []), (.sl [])]) [(0, (.t 70))]), oo 72 (.append 5 72 (.t 61) (.t 71)), oo 73 (.fieldA 4 (.t 9)), ow (.store 1 (.t 73) (.t 72))]
def r_ingotref14_Project_8_n : List (Nat × Nat) := [(0, 2), (1, 2), (0, 3), (1, 3), (2, 3), (0, 4), (1, 4), (2, 4), (3, 4), (0, 5), (1, 5), (2, 5), (3, 5), (4, 5), (0, 6), (1, 6), (2, 6), (3, 6), (4, 6), (0, 7), (1, 7), (2, 7), (3, 7), (4, 7), (5, 7), (6, 7), (0, 8), (1, 8), (2, 8), (3, 8), (4, 8), (0, 9), (1, 9), (2, 9), (3, 9), (4, 9), (0, 10), (1, 10), (0, 11), (1, 11)]
def r_ingotref14_Project_8 : ICode := .region r_ingotref14_Project_8_o r_ingotref14_Project_8_n [0, 1, 2, 7, 8, 9, 10]
@[go_sem] theorem r_ingotref14_Project_8_u : go X (.c r_ingotref14_Project_8 :: K) s = goRU X [] r_ingotref14_Project_8_n r_ingotref14_Project_8_o [0, 1, 2, 7, 8, 9, 10] K s := go_regionU' _ _ _ _
@[go_sem] def r_ingotref14_Project_9_o : Ops := [
oo 40 (.mv (.t 10)), oo 41 (.bin .add (.t 40) (ci 1)), oo 10 (.asg (.t 41))]
def r_ingotref14_Project_9 := rg r_ingotref14_Project_9_o [0, 1, 2, 7, 8, 9, 10]
@[go_sem] theorem r_ingotref14_Project_9_u : Gr X K s r_ingotref14_Project_9 r_ingotref14_Project_9_o [0, 1, 2, 7, 8, 9, 10] := go_region _ _
def b_ingotref14_Project_10 : ICode := (.seq (.seq r_ingotref14_Project_5 (.cond (.t 39) .skip (.exit 0))) (.seq (.block 1 (.seq r_ingotref14_Project_6 (.seq r_ingotref14_Project_7 (.cond (.t 59) r_ingotref14_Project_8 .skip)))) r_ingotref14_Project_9))
@[go_sem] theorem b_ingotref14_Project_10_u : Gn X K s b_ingotref14_Project_10 (.seq (.seq r_ingotref14_Project_5 (.cond (.t 39) .skip (.exit 0))) (.seq (.block 1 (.seq r_ingotref14_Project_6 (.seq r_ingotref14_Project_7 (.cond (.t 59) r_ingotref14_Project_8 .skip)))) r_ingotref14_Project_9)) := rfl
@[go_sem] def r_ingotref14_Project_11_o : Ops := [
oo 74 (.load (some 5) (.t 9)), ow (.store 5 (.t 8) (.t 74))]
def r_ingotref14_Project_11 := rg r_ingotref14_Project_11_o [8]
@[go_sem] theorem r_ingotref14_Project_11_u : Gr X K s r_ingotref14_Project_11 r_ingotref14_Project_11_o [8] := go_region _ _
def c_ingotref14_Project : ICode := (.seq r_ingotref14_Project_0 (.seq r_ingotref14_Project_1 (.cond (.t 22) (.seq r_ingotref14_Project_2 .ret) (.seq r_ingotref14_Project_3 (.seq (.seq r_ingotref14_Project_4 (.block 0 (.loop b_ingotref14_Project_10))) (.seq r_ingotref14_Project_11 .ret))))))
def i_ingotref14_Project : IFunc := ⟨4, [.cell 8 (some 5)], c_ingotref14_Project⟩
def a_ingotref14_Project : Advice := ⟨[72], [(10, [8]), (6, [0, 1, 2, 7, 8, 9, 10]), (9, [0, 1, 2, 7, 8, 9, 10]), (8, [0, 1, 2, 7, 8, 9, 10, 11, 59]), (7, [0, 1, 2, 7, 8, 9, 10, 11]), (5, [0, 1, 2, 7, 8, 9, 10, 39]), (4, [0, 1, 2, 7, 8, 9, 10]), (3, [0, 1, 2, 7, 8, 9]), (2, [8]), (1, [0, 1, 2, 7, 8, 22]), (0, [0, 1, 2, 7, 8])], [], [], []⟩
/-! ingot/ingotref13.all -/
@[go_sem] def r_ingotref13_all_0_o : Ops := [
oo 7 (.mv (.t 1)), oo 8 (.mv (.t 2)), oo 9 (.idxA 1 (.t 7) (.t 8)), ow (.store 1 (.t 9) (.c (.bool true)))]
def r_ingotref13_all_0 := rg r_ingotref13_all_0_o [0, 1, 2]
@[go_sem] theorem r_ingotref13_all_0_u : Gr X K s r_ingotref13_all_0 r_ingotref13_all_0_o [0, 1, 2] := go_region _ _
@[go_sem] def r_ingotref13_all_1_o : Ops := [
oo 6 (.asg (ci 0))]
def r_ingotref13_all_1 := rg r_ingotref13_all_1_o [0, 1, 2, 6]
@[go_sem] theorem r_ingotref13_all_1_u : Gr X K s r_ingotref13_all_1 r_ingotref13_all_1_o [0, 1, 2, 6] := go_region _ _
@[go_sem] def r_ingotref13_all_2_o : Ops := [
oo 10 (.mv (.t 6)), oo 11 (.mv (.t 0)), oo 12 (.mv (.t 2)), oo 13 (.idxA 9 (.t 11) (.t 12)), oo 14 (.fieldA 6 (.t 13)), oo 15 (.load none (.t 14)), oo 16 (.len false (.t 15)), oo 17 (.bin .lss (.t 10) (.t 16))]
def r_ingotref13_all_2 := rg r_ingotref13_all_2_o [0, 1, 2, 6, 17]
@[go_sem] theorem r_ingotref13_all_2_u : Gr X K s r_ingotref13_all_2 r_ingotref13_all_2_o [0, 1, 2, 6, 17] := go_region _ _
@[go_sem] def r_ingotref13_all_3_o : Ops := [
oo 20 (.mv (.t 0)), oo 21 (.mv (.t 1)), oo 22 (.mv (.t 0)), oo 23 (.mv (.t 2)), oo 24 (.idxA 9 (.t 22) (.t 23)), oo 25 (.fieldA 6 (.t 24)), oo 26 (.load none (.t 25)), oo 27 (.mv (.t 6)), oo 28 (.idxA 1 (.t 26) (.t 27)), oo 29 (.load none (.t 28)), oo 30 (.callg false n_ingotref13_all [(.t 20), (.t 21), (.t 29)] 1)]
def r_ingotref13_all_3 := rg r_ingotref13_all_3_o [0, 1, 2, 6]
@[go_sem] theorem r_ingotref13_all_3_u : Gr X K s r_ingotref13_all_3 r_ingotref13_all_3_o [0, 1, 2, 6] := go_region _ _
@[go_sem] def r_ingotref13_all_4_o : Ops := [
oo 18 (.mv (.t 6)), oo 19 (.bin .add (.t 18) (ci 1)), oo 6 (.asg (.t 19))]
def r_ingotref13_all_4 := rg r_ingotref13_all_4_o [0, 1, 2, 6]
@[go_sem] theorem r_ingotref13_all_4_u : Gr X K s r_ingotref13_all_4 r_ingotref13_all_4_o [0, 1, 2, 6] := go_region _ _
def b_ingotref13_all_5 : ICode := (.seq (.seq r_ingotref13_all_2 (.cond (.t 17) .skip (.exit 0))) (.seq (.block 1 r_ingotref13_all_3) r_ingotref13_all_4))
@[go_sem] theorem b_ingotref13_all_5_u : Gn X K s b_ingotref13_all_5 (.seq (.seq r_ingotref13_all_2 (.cond (.t 17) .skip (.exit 0))) (.seq (.block 1 r_ingotref13_all_3) r_ingotref13_all_4)) := rfl
def c_ingotref13_all : ICode := (.seq r_ingotref13_all_0 (.seq r_ingotref13_all_1 (.block 0 (.loop b_ingotref13_all_5))))
def i_ingotref13_all : IFunc := ⟨3, [], c_ingotref13_all⟩
def a_ingotref13_all : Advice := ⟨[], [(3, [0, 1, 2, 6]), (4, [0, 1, 2, 6]), (2, [0, 1, 2, 6, 17]), (1, [0, 1, 2, 6]), (0, [0, 1, 2])], [], [], [(30, 1)]⟩
/-! ingot/ingotref13.Close -/
@[go_sem] def r_ingotref13_Close_0_o : Ops := [
oo 4 (.asg (.c .nilS)), oo 5 (.asg (ci 0))]
def r_ingotref13_Close_0 := rg r_ingotref13_Close_0_o [0, 1]
@[go_sem] theorem r_ingotref13_Close_0_u : Gr X K s r_ingotref13_Close_0 r_ingotref13_Close_0_o [0, 1] := go_region _ _
@[go_sem] def r_ingotref13_Close_1_o : Ops := [
oo 10 (.mv (.t 0)), oo 11 (.len false (.t 10)), oo 12 (.mkS 1 1 (.bool false) (.t 11) (.t 11)), oo 6 (.asg (.t 12))]
def r_ingotref13_Close_1 := rg r_ingotref13_Close_1_o [0, 1, 6]
@[go_sem] theorem r_ingotref13_Close_1_u : Gr X K s r_ingotref13_Close_1 r_ingotref13_Close_1_o [0, 1, 6] := go_region _ _
@[go_sem] def r_ingotref13_Close_2_o : Ops := [
oo 7 (.asg (ci 0))]
def r_ingotref13_Close_2 := rg r_ingotref13_Close_2_o [0, 1, 6, 7]
@[go_sem] theorem r_ingotref13_Close_2_u : Gr X K s r_ingotref13_Close_2 r_ingotref13_Close_2_o [0, 1, 6, 7] := go_region _ _
@[go_sem] def r_ingotref13_Close_3_o : Ops := [
oo 13 (.mv (.t 7)), oo 14 (.mv (.t 1)), oo 15 (.len false (.t 14)), oo 16 (.bin .lss (.t 13) (.t 15))]
def r_ingotref13_Close_3 := rg r_ingotref13_Close_3_o [0, 1, 6, 7, 16]
@[go_sem] theorem r_ingotref13_Close_3_u : Gr X K s r_ingotref13_Close_3 r_ingotref13_Close_3_o [0, 1, 6, 7, 16] := go_region _ _
@[go_sem] def r_ingotref13_Close_4_o : Ops := [
oo 19 (.mv (.t 1)), oo 20 (.mv (.t 7)), oo 21 (.idxA 1 (.t 19) (.t 20)), oo 22 (.load none (.t 21)), oo 23 (.bin .lss (.t 22) (ci 0)), oo 24 (.mv (.t 23)), og 25 24 false (.mv (.t 1)), og 26 24 false (.mv (.t 7)), og 27 24 false (.idxA 1 (.t 25) (.t 26)), og 28 24 false (.load none (.t 27)), og 29 24 false (.mv (.t 0)), og 30 24 false (.len false (.t 29)), og 31 24 false (.bin .geq (.t 28) (.t 30)), oo 32 (.pick (.t 24) (.c (.bool true)) (.t 31))]
def r_ingotref13_Close_4 := rg r_ingotref13_Close_4_o [0, 1, 6, 7, 32]
@[go_sem] theorem r_ingotref13_Close_4_u : Gr X K s r_ingotref13_Close_4 r_ingotref13_Close_4_o [0, 1, 6, 7, 32] := go_region _ _
@[go_sem] def r_ingotref13_Close_5_o : Ops := [
oo 4 (.asg (.c .nilS)), oo 5 (.asg (ci 1))]
def r_ingotref13_Close_5 := rg r_ingotref13_Close_5_o [4, 5]
@[go_sem] theorem r_ingotref13_Close_5_u : Gr X K s r_ingotref13_Close_5 r_ingotref13_Close_5_o [4, 5] := go_region _ _
@[go_sem] def r_ingotref13_Close_6_o : Ops := [
oo 17 (.mv (.t 7)), oo 18 (.bin .add (.t 17) (ci 1)), oo 7 (.asg (.t 18))]
def r_ingotref13_Close_6 := rg r_ingotref13_Close_6_o [0, 1, 6, 7]
@[go_sem] theorem r_ingotref13_Close_6_u : Gr X K s r_ingotref13_Close_6 r_ingotref13_Close_6_o [0, 1, 6, 7] := go_region _ _
def b_ingotref13_Close_7 : ICode := (.seq (.seq r_ingotref13_Close_3 (.cond (.t 16) .skip (.exit 0))) (.seq (.block 1 (.seq r_ingotref13_Close_4 (.cond (.t 32) (.seq r_ingotref13_Close_5 .ret) .skip))) r_ingotref13_Close_6))
@[go_sem] theorem b_ingotref13_Close_7_u : Gn X K s b_ingotref13_Close_7 (.seq (.seq r_ingotref13_Close_3 (.cond (.t 16) .skip (.exit 0))) (.seq (.block 1 (.seq r_ingotref13_Close_4 (.cond (.t 32) (.seq r_ingotref13_Close_5 .ret) .skip))) r_ingotref13_Close_6)) := rfl
@[go_sem] def r_ingotref13_Close_8_o : Ops := [
oo 8 (.asg (ci 0))]
def r_ingotref13_Close_8 := rg r_ingotref13_Close_8_o [0, 1, 6, 8]
@[go_sem] theorem r_ingotref13_Close_8_u : Gr X K s r_ingotref13_Close_8 r_ingotref13_Close_8_o [0, 1, 6, 8] := go_region _ _
@[go_sem] def r_ingotref13_Close_9_o : Ops := [
oo 33 (.mv (.t 8)), oo 34 (.mv (.t 1)), oo 35 (.len false (.t 34)), oo 36 (.bin .lss (.t 33) (.t 35))]
def r_ingotref13_Close_9 := rg r_ingotref13_Close_9_o [0, 1, 6, 8, 36]
@[go_sem] theorem r_ingotref13_Close_9_u : Gr X K s r_ingotref13_Close_9 r_ingotref13_Close_9_o [0, 1, 6, 8, 36] := go_region _ _
@[go_sem] def r_ingotref13_Close_10_o : Ops := [
oo 39 (.mv (.t 0)), oo 40 (.mv (.t 6)), oo 41 (.mv (.t 1)), oo 42 (.mv (.t 8)), oo 43 (.idxA 1 (.t 41) (.t 42)), oo 44 (.load none (.t 43)), oo 45 (.callg false n_ingotref13_all [(.t 39), (.t 40), (.t 44)] 1)]
def r_ingotref13_Close_10 := rg r_ingotref13_Close_10_o [0, 1, 6, 8]
@[go_sem] theorem r_ingotref13_Close_10_u : Gr X K s r_ingotref13_Close_10 r_ingotref13_Close_10_o [0, 1, 6, 8] := go_region _ _
@[go_sem] def r_ingotref13_Close_11_o : Ops := [
oo 46 (.mv (.t 1)), oo 47 (.mv (.t 8)), oo 48 (.idxA 1 (.t 46) (.t 47)), oo 49 (.load none (.t 48)), oo 9 (.asg (.t 49))]
def r_ingotref13_Close_11 := rg r_ingotref13_Close_11_o [0, 1, 6, 8, 9]
@[go_sem] theorem r_ingotref13_Close_11_u : Gr X K s r_ingotref13_Close_11 r_ingotref13_Close_11_o [0, 1, 6, 8, 9] := go_region _ _
@[go_sem] def r_ingotref13_Close_12_o : Ops := [
oo 50 (.mv (.t 9)), oo 51 (.bin .geq (.t 50) (ci 0))]
def r_ingotref13_Close_12 := rg r_ingotref13_Close_12_o [0, 1, 6, 8, 9, 51]
@[go_sem] theorem r_ingotref13_Close_12_u : Gr X K s r_ingotref13_Close_12 r_ingotref13_Close_12_o [0, 1, 6, 8, 9, 51] := go_region _ _
@[go_sem] def r_ingotref13_Close_13_o : Ops := [
oo 57 (.mv (.t 0)), oo 58 (.mv (.t 9)), oo 59 (.idxA 9 (.t 57) (.t 58)), oo 60 (.fieldA 0 (.t 59)), oo 61 (.fieldA 0 (.t 60)), oo 62 (.load none (.t 61)), oo 63 (.bin .neq (.t 62) (ci 12))]
def r_ingotref13_Close_13 := rg r_ingotref13_Close_13_o [0, 1, 6, 8, 9, 63]
@[go_sem] theorem r_ingotref13_Close_13_u : Gr X K s r_ingotref13_Close_13 r_ingotref13_Close_13_o [0, 1, 6, 8, 9, 63] := go_region _ _
@[go_sem] def r_ingotref13_Close_14_o : Ops := [
oo 64 (.mv (.t 0)), oo 65 (.mv (.t 6)), oo 66 (.mv (.t 9)), oo 67 (.callg false n_ingotref13_all [(.t 64), (.t 65), (.t 66)] 1)]
def r_ingotref13_Close_14 := rg r_ingotref13_Close_14_o [0, 1, 6, 8, 9]
@[go_sem] theorem r_ingotref13_Close_14_u : Gr X K s r_ingotref13_Close_14 r_ingotref13_Close_14_o [0, 1, 6, 8, 9] := go_region _ _
@[go_sem] def r_ingotref13_Close_15_o : Ops := [
oo 68 (.mv (.t 6)), oo 69 (.mv (.t 9)), oo 70 (.idxA 1 (.t 68) (.t 69)), ow (.store 1 (.t 70) (.c (.bool true)))]
def r_ingotref13_Close_15 := rg r_ingotref13_Close_15_o [0, 1, 6, 8, 9]
@[go_sem] theorem r_ingotref13_Close_15_u : Gr X K s r_ingotref13_Close_15 r_ingotref13_Close_15_o [0, 1, 6, 8, 9] := go_region _ _
@[go_sem] def r_ingotref13_Close_16_o : Ops := [
oo 52 (.mv (.t 0)), oo 53 (.mv (.t 9)), oo 54 (.idxA 9 (.t 52) (.t 53)), oo 55 (.fieldA 7 (.t 54)), oo 56 (.load none (.t 55)), oo 9 (.asg (.t 56))]
def r_ingotref13_Close_16 := rg r_ingotref13_Close_16_o [0, 1, 6, 8, 9]
@[go_sem] theorem r_ingotref13_Close_16_u : Gr X K s r_ingotref13_Close_16 r_ingotref13_Close_16_o [0, 1, 6, 8, 9] := go_region _ _
def b_ingotref13_Close_17 : ICode := (.seq (.seq r_ingotref13_Close_12 (.cond (.t 51) .skip (.exit 4))) (.seq (.block 5 (.seq (.seq r_ingotref13_Close_13 (.cond (.t 63) r_ingotref13_Close_14 .skip)) r_ingotref13_Close_15)) r_ingotref13_Close_16))
@[go_sem] theorem b_ingotref13_Close_17_u : Gn X K s b_ingotref13_Close_17 (.seq (.seq r_ingotref13_Close_12 (.cond (.t 51) .skip (.exit 4))) (.seq (.block 5 (.seq (.seq r_ingotref13_Close_13 (.cond (.t 63) r_ingotref13_Close_14 .skip)) r_ingotref13_Close_15)) r_ingotref13_Close_16)) := rfl
@[go_sem] def r_ingotref13_Close_18_o : Ops := [
oo 37 (.mv (.t 8)), oo 38 (.bin .add (.t 37) (ci 1)), oo 8 (.asg (.t 38))]
def r_ingotref13_Close_18 := rg r_ingotref13_Close_18_o [0, 1, 6, 8]
@[go_sem] theorem r_ingotref13_Close_18_u : Gr X K s r_ingotref13_Close_18 r_ingotref13_Close_18_o [0, 1, 6, 8] := go_region _ _
def b_ingotref13_Close_19 : ICode := (.seq (.seq r_ingotref13_Close_9 (.cond (.t 36) .skip (.exit 2))) (.seq (.block 3 (.seq r_ingotref13_Close_10 (.seq r_ingotref13_Close_11 (.block 4 (.loop b_ingotref13_Close_17))))) r_ingotref13_Close_18))
@[go_sem] theorem b_ingotref13_Close_19_u : Gn X K s b_ingotref13_Close_19 (.seq (.seq r_ingotref13_Close_9 (.cond (.t 36) .skip (.exit 2))) (.seq (.block 3 (.seq r_ingotref13_Close_10 (.seq r_ingotref13_Close_11 (.block 4 (.loop b_ingotref13_Close_17))))) r_ingotref13_Close_18)) := rfl
@[go_sem] def r_ingotref13_Close_20_o : Ops := [
oo 71 (.mv (.t 6)), oo 4 (.asg (.t 71)), oo 5 (.asg (ci 0))]
def r_ingotref13_Close_20 := rg r_ingotref13_Close_20_o [4, 5]
@[go_sem] theorem r_ingotref13_Close_20_u : Gr X K s r_ingotref13_Close_20 r_ingotref13_Close_20_o [4, 5] := go_region _ _
def c_ingotref13_Close : ICode := (.seq r_ingotref13_Close_0 (.seq r_ingotref13_Close_1 (.seq (.seq r_ingotref13_Close_2 (.block 0 (.loop b_ingotref13_Close_7))) (.seq (.seq r_ingotref13_Close_8 (.block 2 (.loop b_ingotref13_Close_19))) (.seq r_ingotref13_Close_20 .ret)))))
def i_ingotref13_Close : IFunc := ⟨2, [.t 4, .t 5], c_ingotref13_Close⟩
def a_ingotref13_Close : Advice := ⟨[], [(17, [4, 5]), (9, [0, 1, 6, 8]), (13, [0, 1, 6, 8, 9]), (16, [0, 1, 6, 8, 9]), (15, [0, 1, 6, 8, 9]), (14, [0, 1, 6, 8, 9, 63]), (12, [0, 1, 6, 8, 9, 51]), (11, [0, 1, 6, 8, 9]), (10, [0, 1, 6, 8]), (8, [0, 1, 6, 8, 36]), (7, [0, 1, 6, 8]), (4, [0, 1, 6, 7]), (6, [4, 5]), (5, [0, 1, 6, 7, 32]), (3, [0, 1, 6, 7, 16]), (2, [0, 1, 6, 7]), (1, [0, 1, 6]), (0, [0, 1])], [], [], [(45, 1), (67, 1)]⟩
/-! ingot/ingotref13.Flatten -/
@[go_sem] def r_ingotref13_Flatten_0_o : Ops := [
oo 1 (.box 6 (.t 0)), oo 2 (.asg (.c .nilS))]
def r_ingotref13_Flatten_0 := rg r_ingotref13_Flatten_0_o [1]
@[go_sem] theorem r_ingotref13_Flatten_0_u : Gr X K s r_ingotref13_Flatten_0 r_ingotref13_Flatten_0_o [1] := go_region _ _
@[go_sem] def r_ingotref13_Flatten_1_o : Ops := [
oo 3 (.load (some 6) (.t 1)), oo 4 (.call false n_ingotref13_Check [(.t 3)]), oo 5 (.bin .neq (.t 4) (ci 0))]
def r_ingotref13_Flatten_1 := rg r_ingotref13_Flatten_1_o [1, 5]
@[go_sem] theorem r_ingotref13_Flatten_1_u : Gr X K s r_ingotref13_Flatten_1 r_ingotref13_Flatten_1_o [1, 5] := go_region _ _
@[go_sem] def r_ingotref13_Flatten_2_o : Ops := [
oo 2 (.asg (.c .nilS))]
def r_ingotref13_Flatten_2 := rg r_ingotref13_Flatten_2_o [2]
@[go_sem] theorem r_ingotref13_Flatten_2_u : Gr X K s r_ingotref13_Flatten_2 r_ingotref13_Flatten_2_o [2] := go_region _ _
@[go_sem] def r_ingotref13_Flatten_3_o : Ops := [
oo 6 (.load (some 6) (.t 1)), oo 7 (.call false n_ingotref13_flat [(.c .nilS), (.t 6), (ci (-1)), (ci 1)]), oo 2 (.asg (.t 7))]
def r_ingotref13_Flatten_3 := rg r_ingotref13_Flatten_3_o [2]
@[go_sem] theorem r_ingotref13_Flatten_3_u : Gr X K s r_ingotref13_Flatten_3 r_ingotref13_Flatten_3_o [2] := go_region _ _
def c_ingotref13_Flatten : ICode := (.seq r_ingotref13_Flatten_0 (.seq r_ingotref13_Flatten_1 (.cond (.t 5) (.seq r_ingotref13_Flatten_2 .ret) (.seq r_ingotref13_Flatten_3 .ret))))
def i_ingotref13_Flatten : IFunc := ⟨1, [.t 2], c_ingotref13_Flatten⟩
def a_ingotref13_Flatten : Advice := ⟨[], [(3, [2]), (2, [2]), (1, [1, 5]), (0, [1])], [], [], []⟩
/-! ingot/ingotlaw14.ValueProjects -/
@[go_sem] def r_ingotlaw14_ValueProjects_0_o : Ops := [
oo 3 (.box 6 (.t 0)), oo 4 (.box 5 (.t 1)), oo 6 (.asg (.c (.bool false)))]
def r_ingotlaw14_ValueProjects_0 := rg r_ingotlaw14_ValueProjects_0_o [2, 3, 4]
@[go_sem] theorem r_ingotlaw14_ValueProjects_0_u : Gr X K s r_ingotlaw14_ValueProjects_0 r_ingotlaw14_ValueProjects_0_o [2, 3, 4] := go_region _ _
@[go_sem] def r_ingotlaw14_ValueProjects_1_o : Ops := [
oo 13 (.call false n_ingotlaw14_known []), oo 14 (.un .not (.t 13))]
def r_ingotlaw14_ValueProjects_1 := rg r_ingotlaw14_ValueProjects_1_o [2, 3, 4, 14]
@[go_sem] theorem r_ingotlaw14_ValueProjects_1_u : Gr X K s r_ingotlaw14_ValueProjects_1 r_ingotlaw14_ValueProjects_1_o [2, 3, 4, 14] := go_region _ _
@[go_sem] def r_ingotlaw14_ValueProjects_2_o : Ops := [
oo 6 (.asg (.c (.bool false)))]
def r_ingotlaw14_ValueProjects_2 := rg r_ingotlaw14_ValueProjects_2_o [6]
@[go_sem] theorem r_ingotlaw14_ValueProjects_2_u : Gr X K s r_ingotlaw14_ValueProjects_2 r_ingotlaw14_ValueProjects_2_o [6] := go_region _ _
@[go_sem] def r_ingotlaw14_ValueProjects_3_o : Ops := [
oo 15 (.load (some 6) (.t 3)), oo 16 (.call false n_ingotlaw14_Right [(.t 15)]), oo 17 (.un .not (.t 16)), oo 18 (.mv (.t 17)), og 19 18 false (.load (some 5) (.t 4)), og 20 18 false (.call false n_ingotlaw14_Few [(.t 19)]), og 21 18 false (.un .not (.t 20)), oo 22 (.pick (.t 18) (.c (.bool true)) (.t 21)), oo 23 (.mv (.t 22)), og 24 23 false (.mv (.t 2)), og 25 23 false (.len false (.t 24)), og 26 23 false (.bin .gtr (.t 25) (ci 20)), oo 27 (.pick (.t 23) (.c (.bool true)) (.t 26)), oo 28 (.mv (.t 27)), og 29 28 false (.load (some 6) (.t 3)), og 30 28 false (.load (some 5) (.t 4)), og 31 28 false (.call false n_ingotref14_Check [(.t 29), (.t 30)]), og 32 28 false (.bin .neq (.t 31) (ci 0)), oo 33 (.pick (.t 28) (.c (.bool true)) (.t 32))]
def r_ingotlaw14_ValueProjects_3 := rg r_ingotlaw14_ValueProjects_3_o [2, 3, 4, 33]
@[go_sem] theorem r_ingotlaw14_ValueProjects_3_u : Gr X K s r_ingotlaw14_ValueProjects_3 r_ingotlaw14_ValueProjects_3_o [2, 3, 4, 33] := go_region _ _
@[go_sem] def r_ingotlaw14_ValueProjects_4_o : Ops := [
oo 6 (.asg (.c (.bool true)))]
def r_ingotlaw14_ValueProjects_4 := rg r_ingotlaw14_ValueProjects_4_o [6]
@[go_sem] theorem r_ingotlaw14_ValueProjects_4_u : Gr X K s r_ingotlaw14_ValueProjects_4 r_ingotlaw14_ValueProjects_4_o [6] := go_region _ _
@[go_sem] def r_ingotlaw14_ValueProjects_5_o : Ops := [
oo 34 (.load (some 6) (.t 3)), oo 35 (.call false n_ingotref13_Flatten [(.t 34)]), oo 7 (.asg (.t 35))]
def r_ingotlaw14_ValueProjects_5 := rg r_ingotlaw14_ValueProjects_5_o [2, 3, 4, 7]
@[go_sem] theorem r_ingotlaw14_ValueProjects_5_u : Gr X K s r_ingotlaw14_ValueProjects_5 r_ingotlaw14_ValueProjects_5_o [2, 3, 4, 7] := go_region _ _
@[go_sem] def r_ingotlaw14_ValueProjects_6_o : Ops := [
oo 37 (.mv (.t 7)), oo 38 (.mv (.t 2)), oo 39 (.call false n_ingotref13_Close [(.t 37), (.t 38)]), oo 36 (.mv (.t 39)), oo 40 (.ext (.t 36) 0), oo 41 (.ext (.t 36) 1), oo 8 (.asg (.t 40)), oo 9 (.asg (.t 41))]
def r_ingotlaw14_ValueProjects_6 := rg r_ingotlaw14_ValueProjects_6_o [2, 3, 4, 7, 8, 9]
@[go_sem] theorem r_ingotlaw14_ValueProjects_6_u : Gr X K s r_ingotlaw14_ValueProjects_6 r_ingotlaw14_ValueProjects_6_o [2, 3, 4, 7, 8, 9] := go_region _ _
@[go_sem] def r_ingotlaw14_ValueProjects_7_o : Ops := [
oo 42 (.mv (.t 9)), oo 43 (.bin .neq (.t 42) (ci 0)), oo 44 (.mv (.t 43)), og 45 44 false (.mv (.t 2)), og 46 44 false (.len false (.t 45)), og 47 44 false (.bin .eql (.t 46) (ci 0)), oo 48 (.pick (.t 44) (.c (.bool true)) (.t 47))]
def r_ingotlaw14_ValueProjects_7 := rg r_ingotlaw14_ValueProjects_7_o [3, 4, 7, 8, 48]
@[go_sem] theorem r_ingotlaw14_ValueProjects_7_u : Gr X K s r_ingotlaw14_ValueProjects_7 r_ingotlaw14_ValueProjects_7_o [3, 4, 7, 8, 48] := go_region _ _
@[go_sem] def r_ingotlaw14_ValueProjects_8_o : Ops := [
oo 6 (.asg (.c (.bool true)))]
def r_ingotlaw14_ValueProjects_8 := rg r_ingotlaw14_ValueProjects_8_o [6]
@[go_sem] theorem r_ingotlaw14_ValueProjects_8_u : Gr X K s r_ingotlaw14_ValueProjects_8 r_ingotlaw14_ValueProjects_8_o [6] := go_region _ _
@[go_sem] def r_ingotlaw14_ValueProjects_9_o : Ops := [
oo 49 (.load (some 6) (.t 3)), oo 50 (.call false n_types_Flatten [(.t 49)]), oo 51 (.mv (.t 8)), oo 52 (.load (some 5) (.t 4)), oo 53 (.call false n_value_Project [(.t 50), (.t 51), (.t 52)]), oo 10 (.alloc [(.bool false), (.int .i64 0), (.int .i64 0), .nilS, .nilS]), ow (.store 5 (.t 10) (.t 53))]
def r_ingotlaw14_ValueProjects_9_n : List (Nat × Nat) := [(0, 2), (1, 2), (0, 3), (1, 3), (2, 3), (0, 5), (1, 5), (2, 5), (3, 5), (4, 5)]
def r_ingotlaw14_ValueProjects_9 : ICode := .region r_ingotlaw14_ValueProjects_9_o r_ingotlaw14_ValueProjects_9_n [3, 4, 7, 8, 10]
@[go_sem] theorem r_ingotlaw14_ValueProjects_9_u : go X (.c r_ingotlaw14_ValueProjects_9 :: K) s = goRU X [] r_ingotlaw14_ValueProjects_9_n r_ingotlaw14_ValueProjects_9_o [3, 4, 7, 8, 10] K s := go_regionU' _ _ _ _
@[go_sem] def r_ingotlaw14_ValueProjects_10_o : Ops := [
oo 54 (.mv (.t 7)), oo 55 (.len false (.t 54)), oo 56 (.mkS 1 1 (.bool false) (.t 55) (.t 55)), oo 11 (.asg (.t 56))]
def r_ingotlaw14_ValueProjects_10 := rg r_ingotlaw14_ValueProjects_10_o [3, 4, 7, 8, 10, 11]
@[go_sem] theorem r_ingotlaw14_ValueProjects_10_u : Gr X K s r_ingotlaw14_ValueProjects_10 r_ingotlaw14_ValueProjects_10_o [3, 4, 7, 8, 10, 11] := go_region _ _
@[go_sem] def r_ingotlaw14_ValueProjects_11_o : Ops := [
oo 12 (.asg (ci 0))]
def r_ingotlaw14_ValueProjects_11 := rg r_ingotlaw14_ValueProjects_11_o [3, 4, 7, 8, 10, 11, 12]
@[go_sem] theorem r_ingotlaw14_ValueProjects_11_u : Gr X K s r_ingotlaw14_ValueProjects_11 r_ingotlaw14_ValueProjects_11_o [3, 4, 7, 8, 10, 11, 12] := go_region _ _
@[go_sem] def r_ingotlaw14_ValueProjects_12_o : Ops := [
oo 57 (.mv (.t 12)), oo 58 (.mv (.t 7)), oo 59 (.len false (.t 58)), oo 60 (.bin .lss (.t 57) (.t 59))]
def r_ingotlaw14_ValueProjects_12 := rg r_ingotlaw14_ValueProjects_12_o [3, 4, 7, 8, 10, 11, 12, 60]
@[go_sem] theorem r_ingotlaw14_ValueProjects_12_u : Gr X K s r_ingotlaw14_ValueProjects_12 r_ingotlaw14_ValueProjects_12_o [3, 4, 7, 8, 10, 11, 12, 60] := go_region _ _
@[go_sem] def r_ingotlaw14_ValueProjects_13_o : Ops := [
oo 63 (.mv (.t 11)), oo 64 (.mv (.t 12)), oo 65 (.idxA 1 (.t 63) (.t 64)), ow (.store 1 (.t 65) (.c (.bool true)))]
def r_ingotlaw14_ValueProjects_13 := rg r_ingotlaw14_ValueProjects_13_o [3, 4, 7, 8, 10, 11, 12]
@[go_sem] theorem r_ingotlaw14_ValueProjects_13_u : Gr X K s r_ingotlaw14_ValueProjects_13 r_ingotlaw14_ValueProjects_13_o [3, 4, 7, 8, 10, 11, 12] := go_region _ _
@[go_sem] def r_ingotlaw14_ValueProjects_14_o : Ops := [
oo 61 (.mv (.t 12)), oo 62 (.bin .add (.t 61) (ci 1)), oo 12 (.asg (.t 62))]
def r_ingotlaw14_ValueProjects_14 := rg r_ingotlaw14_ValueProjects_14_o [3, 4, 7, 8, 10, 11, 12]
@[go_sem] theorem r_ingotlaw14_ValueProjects_14_u : Gr X K s r_ingotlaw14_ValueProjects_14 r_ingotlaw14_ValueProjects_14_o [3, 4, 7, 8, 10, 11, 12] := go_region _ _
def b_ingotlaw14_ValueProjects_15 : ICode := (.seq (.seq r_ingotlaw14_ValueProjects_12 (.cond (.t 60) .skip (.exit 0))) (.seq (.block 1 r_ingotlaw14_ValueProjects_13) r_ingotlaw14_ValueProjects_14))
@[go_sem] theorem b_ingotlaw14_ValueProjects_15_u : Gn X K s b_ingotlaw14_ValueProjects_15 (.seq (.seq r_ingotlaw14_ValueProjects_12 (.cond (.t 60) .skip (.exit 0))) (.seq (.block 1 r_ingotlaw14_ValueProjects_13) r_ingotlaw14_ValueProjects_14)) := rfl
@[go_sem] def r_ingotlaw14_ValueProjects_16_o : Ops := [
oo 66 (.load (some 5) (.t 10)), oo 67 (.mv (.t 7)), oo 68 (.mv (.t 8)), oo 69 (.load (some 5) (.t 4)), oo 70 (.call false n_ingotref14_Project [(.t 67), (.t 68), (ci 0), (.t 69)]), oo 71 (.call false n_ingotref14_Same [(.t 66), (.t 70)]), oo 72 (.mv (.t 71)), og 73 72 true (.load (some 6) (.t 3)), og 74 72 true (.call false n_types_Flatten [(.t 73)]), og 75 72 true (.mv (.t 11)), og 76 72 true (.load (some 5) (.t 4)), og 77 72 true (.call false n_value_Project [(.t 74), (.t 75), (.t 76)]), og 78 72 true (.load (some 5) (.t 4)), og 79 72 true (.call false n_ingotref14_Same [(.t 77), (.t 78)]), oo 80 (.pick (.t 72) (.t 79) (.c (.bool false))), oo 6 (.asg (.t 80))]
def r_ingotlaw14_ValueProjects_16_n : List (Nat × Nat) := [(0, 1), (0, 2), (1, 2), (0, 3), (1, 3), (2, 3), (0, 4), (7, 9), (8, 9), (7, 10), (8, 10), (9, 10), (7, 12), (8, 12), (9, 12), (10, 12), (11, 12)]
def r_ingotlaw14_ValueProjects_16 : ICode := .region r_ingotlaw14_ValueProjects_16_o r_ingotlaw14_ValueProjects_16_n [6]
@[go_sem] theorem r_ingotlaw14_ValueProjects_16_u : go X (.c r_ingotlaw14_ValueProjects_16 :: K) s = goRU X [] r_ingotlaw14_ValueProjects_16_n r_ingotlaw14_ValueProjects_16_o [6] K s := go_regionU' _ _ _ _
def c_ingotlaw14_ValueProjects : ICode := (.seq r_ingotlaw14_ValueProjects_0 (.seq r_ingotlaw14_ValueProjects_1 (.cond (.t 14) (.seq r_ingotlaw14_ValueProjects_2 .ret) (.seq r_ingotlaw14_ValueProjects_3 (.cond (.t 33) (.seq r_ingotlaw14_ValueProjects_4 .ret) (.seq r_ingotlaw14_ValueProjects_5 (.seq r_ingotlaw14_ValueProjects_6 (.seq r_ingotlaw14_ValueProjects_7 (.cond (.t 48) (.seq r_ingotlaw14_ValueProjects_8 .ret) (.seq r_ingotlaw14_ValueProjects_9 (.seq r_ingotlaw14_ValueProjects_10 (.seq (.seq r_ingotlaw14_ValueProjects_11 (.block 0 (.loop b_ingotlaw14_ValueProjects_15))) (.seq (.seq (.demote [11]) r_ingotlaw14_ValueProjects_16) .ret)))))))))))))
def i_ingotlaw14_ValueProjects : IFunc := ⟨3, [.t 6], c_ingotlaw14_ValueProjects⟩
def a_ingotlaw14_ValueProjects : Advice := ⟨[], [(15, [6]), (13, [3, 4, 7, 8, 10, 11, 12]), (14, [3, 4, 7, 8, 10, 11, 12]), (12, [3, 4, 7, 8, 10, 11, 12, 60]), (11, [3, 4, 7, 8, 10, 11, 12]), (10, [3, 4, 7, 8, 10, 11]), (9, [3, 4, 7, 8, 10]), (8, [6]), (7, [3, 4, 7, 8, 48]), (6, [2, 3, 4, 7, 8, 9]), (5, [2, 3, 4, 7]), (4, [6]), (3, [2, 3, 4, 33]), (2, [6]), (1, [2, 3, 4, 14]), (0, [2, 3, 4])], [(15, [11])], [], []⟩
/-! ingot/ingotref14.Same -/
@[go_sem] def r_ingotref14_Same_0_o : Ops := [
oo 2 (.box 5 (.t 0)), oo 3 (.box 5 (.t 1)), oo 4 (.asg (.c (.bool false)))]
def r_ingotref14_Same_0 := rg r_ingotref14_Same_0_o [2, 3]
@[go_sem] theorem r_ingotref14_Same_0_u : Gr X K s r_ingotref14_Same_0 r_ingotref14_Same_0_o [2, 3] := go_region _ _
@[go_sem] def r_ingotref14_Same_1_o : Ops := [
oo 6 (.fieldA 0 (.t 2)), oo 7 (.load none (.t 6)), oo 8 (.fieldA 0 (.t 3)), oo 9 (.load none (.t 8)), oo 10 (.eqn true .bool (.t 7) (.t 9)), oo 11 (.mv (.t 10)), og 12 11 false (.fieldA 1 (.t 2)), og 13 11 false (.load none (.t 12)), og 14 11 false (.fieldA 1 (.t 3)), og 15 11 false (.load none (.t 14)), og 16 11 false (.bin .neq (.t 13) (.t 15)), oo 17 (.pick (.t 11) (.c (.bool true)) (.t 16)), oo 18 (.mv (.t 17)), og 19 18 false (.fieldA 2 (.t 2)), og 20 18 false (.load none (.t 19)), og 21 18 false (.fieldA 2 (.t 3)), og 22 18 false (.load none (.t 21)), og 23 18 false (.bin .neq (.t 20) (.t 22)), oo 24 (.pick (.t 18) (.c (.bool true)) (.t 23)), oo 25 (.mv (.t 24)), og 26 25 false (.fieldA 3 (.t 2)), og 27 25 false (.load none (.t 26)), og 28 25 false (.b2s (.t 27)), og 29 25 false (.fieldA 3 (.t 3)), og 30 25 false (.load none (.t 29)), og 31 25 false (.b2s (.t 30)), og 32 25 false (.bin .neq (.t 28) (.t 31)), oo 33 (.pick (.t 25) (.c (.bool true)) (.t 32)), oo 34 (.mv (.t 33)), og 35 34 false (.fieldA 4 (.t 2)), og 36 34 false (.load none (.t 35)), og 37 34 false (.len false (.t 36)), og 38 34 false (.fieldA 4 (.t 3)), og 39 34 false (.load none (.t 38)), og 40 34 false (.len false (.t 39)), og 41 34 false (.bin .neq (.t 37) (.t 40)), oo 42 (.pick (.t 34) (.c (.bool true)) (.t 41))]
def r_ingotref14_Same_1 := rg r_ingotref14_Same_1_o [2, 3, 42]
@[go_sem] theorem r_ingotref14_Same_1_u : Gr X K s r_ingotref14_Same_1 r_ingotref14_Same_1_o [2, 3, 42] := go_region _ _
@[go_sem] def r_ingotref14_Same_2_o : Ops := [
oo 4 (.asg (.c (.bool false)))]
def r_ingotref14_Same_2 := rg r_ingotref14_Same_2_o [4]
@[go_sem] theorem r_ingotref14_Same_2_u : Gr X K s r_ingotref14_Same_2 r_ingotref14_Same_2_o [4] := go_region _ _
@[go_sem] def r_ingotref14_Same_3_o : Ops := [
oo 5 (.asg (ci 0))]
def r_ingotref14_Same_3 := rg r_ingotref14_Same_3_o [2, 3, 5]
@[go_sem] theorem r_ingotref14_Same_3_u : Gr X K s r_ingotref14_Same_3 r_ingotref14_Same_3_o [2, 3, 5] := go_region _ _
@[go_sem] def r_ingotref14_Same_4_o : Ops := [
oo 43 (.mv (.t 5)), oo 44 (.fieldA 4 (.t 2)), oo 45 (.load none (.t 44)), oo 46 (.len false (.t 45)), oo 47 (.bin .lss (.t 43) (.t 46))]
def r_ingotref14_Same_4 := rg r_ingotref14_Same_4_o [2, 3, 5, 47]
@[go_sem] theorem r_ingotref14_Same_4_u : Gr X K s r_ingotref14_Same_4 r_ingotref14_Same_4_o [2, 3, 5, 47] := go_region _ _
@[go_sem] def r_ingotref14_Same_5_o : Ops := [
oo 50 (.fieldA 4 (.t 2)), oo 51 (.load none (.t 50)), oo 52 (.mv (.t 5)), oo 53 (.idxA 5 (.t 51) (.t 52)), oo 54 (.load (some 5) (.t 53)), oo 55 (.fieldA 4 (.t 3)), oo 56 (.load none (.t 55)), oo 57 (.mv (.t 5)), oo 58 (.idxA 5 (.t 56) (.t 57)), oo 59 (.load (some 5) (.t 58)), oo 60 (.call false n_ingotref14_Same [(.t 54), (.t 59)]), oo 61 (.un .not (.t 60))]
def r_ingotref14_Same_5_n : List (Nat × Nat) := [(0, 2), (1, 2), (0, 5), (1, 5), (2, 5), (3, 5), (4, 5), (0, 6), (1, 6), (2, 6), (3, 6), (4, 6), (0, 7), (1, 7), (2, 7), (3, 7), (4, 7), (5, 7), (6, 7), (0, 8), (1, 8), (2, 8), (3, 8), (4, 8), (0, 9), (1, 9), (2, 9), (3, 9), (4, 9)]
def r_ingotref14_Same_5 : ICode := .region r_ingotref14_Same_5_o r_ingotref14_Same_5_n [2, 3, 5, 61]
@[go_sem] theorem r_ingotref14_Same_5_u : go X (.c r_ingotref14_Same_5 :: K) s = goRU X [] r_ingotref14_Same_5_n r_ingotref14_Same_5_o [2, 3, 5, 61] K s := go_regionU' _ _ _ _
@[go_sem] def r_ingotref14_Same_6_o : Ops := [
oo 4 (.asg (.c (.bool false)))]
def r_ingotref14_Same_6 := rg r_ingotref14_Same_6_o [4]
@[go_sem] theorem r_ingotref14_Same_6_u : Gr X K s r_ingotref14_Same_6 r_ingotref14_Same_6_o [4] := go_region _ _
@[go_sem] def r_ingotref14_Same_7_o : Ops := [
oo 48 (.mv (.t 5)), oo 49 (.bin .add (.t 48) (ci 1)), oo 5 (.asg (.t 49))]
def r_ingotref14_Same_7 := rg r_ingotref14_Same_7_o [2, 3, 5]
@[go_sem] theorem r_ingotref14_Same_7_u : Gr X K s r_ingotref14_Same_7 r_ingotref14_Same_7_o [2, 3, 5] := go_region _ _
def b_ingotref14_Same_8 : ICode := (.seq (.seq r_ingotref14_Same_4 (.cond (.t 47) .skip (.exit 0))) (.seq (.block 1 (.seq r_ingotref14_Same_5 (.cond (.t 61) (.seq r_ingotref14_Same_6 .ret) .skip))) r_ingotref14_Same_7))
@[go_sem] theorem b_ingotref14_Same_8_u : Gn X K s b_ingotref14_Same_8 (.seq (.seq r_ingotref14_Same_4 (.cond (.t 47) .skip (.exit 0))) (.seq (.block 1 (.seq r_ingotref14_Same_5 (.cond (.t 61) (.seq r_ingotref14_Same_6 .ret) .skip))) r_ingotref14_Same_7)) := rfl
@[go_sem] def r_ingotref14_Same_9_o : Ops := [
oo 4 (.asg (.c (.bool true)))]
def r_ingotref14_Same_9 := rg r_ingotref14_Same_9_o [4]
@[go_sem] theorem r_ingotref14_Same_9_u : Gr X K s r_ingotref14_Same_9 r_ingotref14_Same_9_o [4] := go_region _ _
def c_ingotref14_Same : ICode := (.seq r_ingotref14_Same_0 (.seq r_ingotref14_Same_1 (.cond (.t 42) (.seq r_ingotref14_Same_2 .ret) (.seq (.seq r_ingotref14_Same_3 (.block 0 (.loop b_ingotref14_Same_8))) (.seq r_ingotref14_Same_9 .ret)))))
def i_ingotref14_Same : IFunc := ⟨2, [.t 4], c_ingotref14_Same⟩
def a_ingotref14_Same : Advice := ⟨[], [(8, [4]), (5, [2, 3, 5]), (7, [4]), (6, [2, 3, 5, 61]), (4, [2, 3, 5, 47]), (3, [2, 3, 5]), (2, [4]), (1, [2, 3, 42]), (0, [2, 3])], [], [], []⟩
/-! ingot/ingotref14.Compare -/
@[go_sem] def r_ingotref14_Compare_0_o : Ops := [
oo 3 (.box 6 (.t 0)), oo 4 (.box 5 (.t 1)), oo 5 (.box 5 (.t 2)), oo 6 (.asg (ci 0)), oo 7 (.asg (.c (.bool false)))]
def r_ingotref14_Compare_0 := rg r_ingotref14_Compare_0_o [3, 4, 5]
@[go_sem] theorem r_ingotref14_Compare_0_u : Gr X K s r_ingotref14_Compare_0 r_ingotref14_Compare_0_o [3, 4, 5] := go_region _ _
@[go_sem] def r_ingotref14_Compare_1_o : Ops := [
oo 8 (.fieldA 0 (.t 4)), oo 9 (.load none (.t 8)), oo 10 (.mv (.t 9)), og 11 10 false (.fieldA 0 (.t 5)), og 12 10 false (.load none (.t 11)), oo 13 (.pick (.t 10) (.c (.bool true)) (.t 12)), oo 14 (.mv (.t 13)), og 15 14 false (.fieldA 0 (.t 3)), og 16 14 false (.load none (.t 15)), og 17 14 false (.call false n_ingotref13_Leaf [(.t 16)]), og 18 14 false (.un .not (.t 17)), oo 19 (.pick (.t 14) (.c (.bool true)) (.t 18))]
def r_ingotref14_Compare_1 := rg r_ingotref14_Compare_1_o [3, 4, 5, 19]
@[go_sem] theorem r_ingotref14_Compare_1_u : Gr X K s r_ingotref14_Compare_1 r_ingotref14_Compare_1_o [3, 4, 5, 19] := go_region _ _
@[go_sem] def r_ingotref14_Compare_2_o : Ops := [
oo 6 (.asg (ci 0)), oo 7 (.asg (.c (.bool false)))]
def r_ingotref14_Compare_2 := rg r_ingotref14_Compare_2_o [6, 7]
@[go_sem] theorem r_ingotref14_Compare_2_u : Gr X K s r_ingotref14_Compare_2 r_ingotref14_Compare_2_o [6, 7] := go_region _ _
@[go_sem] def r_ingotref14_Compare_3_o : Ops := [
oo 20 (.fieldA 0 (.t 3)), oo 21 (.load none (.t 20)), oo 22 (.call false n_ingotref14_Texts [(.t 21)])]
def r_ingotref14_Compare_3 := rg r_ingotref14_Compare_3_o [4, 5, 22]
@[go_sem] theorem r_ingotref14_Compare_3_u : Gr X K s r_ingotref14_Compare_3 r_ingotref14_Compare_3_o [4, 5, 22] := go_region _ _
@[go_sem] def r_ingotref14_Compare_4_o : Ops := [
oo 24 (.fieldA 3 (.t 4)), oo 25 (.load none (.t 24)), oo 26 (.b2s (.t 25)), oo 27 (.fieldA 3 (.t 5)), oo 28 (.load none (.t 27)), oo 29 (.b2s (.t 28)), oo 30 (.bin .lss (.t 26) (.t 29)), oo 23 (.asg (.t 30))]
def r_ingotref14_Compare_4 := rg r_ingotref14_Compare_4_o [4, 5, 23]
@[go_sem] theorem r_ingotref14_Compare_4_u : Gr X K s r_ingotref14_Compare_4 r_ingotref14_Compare_4_o [4, 5, 23] := go_region _ _
@[go_sem] def r_ingotref14_Compare_5_o : Ops := [
oo 6 (.asg (ci (-1))), oo 7 (.asg (.c (.bool true)))]
def r_ingotref14_Compare_5 := rg r_ingotref14_Compare_5_o [6, 7]
@[go_sem] theorem r_ingotref14_Compare_5_u : Gr X K s r_ingotref14_Compare_5 r_ingotref14_Compare_5_o [6, 7] := go_region _ _
@[go_sem] def r_ingotref14_Compare_6_o : Ops := [
oo 32 (.fieldA 3 (.t 4)), oo 33 (.load none (.t 32)), oo 34 (.b2s (.t 33)), oo 35 (.fieldA 3 (.t 5)), oo 36 (.load none (.t 35)), oo 37 (.b2s (.t 36)), oo 38 (.bin .gtr (.t 34) (.t 37)), oo 31 (.asg (.t 38))]
def r_ingotref14_Compare_6 := rg r_ingotref14_Compare_6_o [31]
@[go_sem] theorem r_ingotref14_Compare_6_u : Gr X K s r_ingotref14_Compare_6 r_ingotref14_Compare_6_o [31] := go_region _ _
@[go_sem] def r_ingotref14_Compare_7_o : Ops := [
oo 6 (.asg (ci 1)), oo 7 (.asg (.c (.bool true)))]
def r_ingotref14_Compare_7 := rg r_ingotref14_Compare_7_o [6, 7]
@[go_sem] theorem r_ingotref14_Compare_7_u : Gr X K s r_ingotref14_Compare_7 r_ingotref14_Compare_7_o [6, 7] := go_region _ _
@[go_sem] def r_ingotref14_Compare_8_o : Ops := [
oo 6 (.asg (ci 0)), oo 7 (.asg (.c (.bool true)))]
def r_ingotref14_Compare_8 := rg r_ingotref14_Compare_8_o [6, 7]
@[go_sem] theorem r_ingotref14_Compare_8_u : Gr X K s r_ingotref14_Compare_8 r_ingotref14_Compare_8_o [6, 7] := go_region _ _
@[go_sem] def r_ingotref14_Compare_9_o : Ops := [
oo 40 (.fieldA 1 (.t 4)), oo 41 (.load none (.t 40)), oo 42 (.fieldA 1 (.t 5)), oo 43 (.load none (.t 42)), oo 44 (.bin .lss (.t 41) (.t 43)), oo 45 (.mv (.t 44)), og 46 45 false (.fieldA 1 (.t 4)), og 47 45 false (.load none (.t 46)), og 48 45 false (.fieldA 1 (.t 5)), og 49 45 false (.load none (.t 48)), og 50 45 false (.bin .eql (.t 47) (.t 49)), og 51 45 false (.mv (.t 50)), og 52 51 true (.fieldA 2 (.t 4)), og 53 51 true (.load none (.t 52)), og 54 51 true (.fieldA 2 (.t 5)), og 55 51 true (.load none (.t 54)), og 56 51 true (.bin .lss (.t 53) (.t 55)), og 57 45 false (.pick (.t 51) (.t 56) (.c (.bool false))), oo 58 (.pick (.t 45) (.c (.bool true)) (.t 57)), oo 39 (.asg (.t 58))]
def r_ingotref14_Compare_9 := rg r_ingotref14_Compare_9_o [4, 5, 39]
@[go_sem] theorem r_ingotref14_Compare_9_u : Gr X K s r_ingotref14_Compare_9 r_ingotref14_Compare_9_o [4, 5, 39] := go_region _ _
@[go_sem] def r_ingotref14_Compare_10_o : Ops := [
oo 6 (.asg (ci (-1))), oo 7 (.asg (.c (.bool true)))]
def r_ingotref14_Compare_10 := rg r_ingotref14_Compare_10_o [6, 7]
@[go_sem] theorem r_ingotref14_Compare_10_u : Gr X K s r_ingotref14_Compare_10 r_ingotref14_Compare_10_o [6, 7] := go_region _ _
@[go_sem] def r_ingotref14_Compare_11_o : Ops := [
oo 60 (.fieldA 1 (.t 4)), oo 61 (.load none (.t 60)), oo 62 (.fieldA 1 (.t 5)), oo 63 (.load none (.t 62)), oo 64 (.bin .gtr (.t 61) (.t 63)), oo 65 (.mv (.t 64)), og 66 65 false (.fieldA 2 (.t 4)), og 67 65 false (.load none (.t 66)), og 68 65 false (.fieldA 2 (.t 5)), og 69 65 false (.load none (.t 68)), og 70 65 false (.bin .gtr (.t 67) (.t 69)), oo 71 (.pick (.t 65) (.c (.bool true)) (.t 70)), oo 59 (.asg (.t 71))]
def r_ingotref14_Compare_11 := rg r_ingotref14_Compare_11_o [59]
@[go_sem] theorem r_ingotref14_Compare_11_u : Gr X K s r_ingotref14_Compare_11 r_ingotref14_Compare_11_o [59] := go_region _ _
@[go_sem] def r_ingotref14_Compare_12_o : Ops := [
oo 6 (.asg (ci 1)), oo 7 (.asg (.c (.bool true)))]
def r_ingotref14_Compare_12 := rg r_ingotref14_Compare_12_o [6, 7]
@[go_sem] theorem r_ingotref14_Compare_12_u : Gr X K s r_ingotref14_Compare_12 r_ingotref14_Compare_12_o [6, 7] := go_region _ _
@[go_sem] def r_ingotref14_Compare_13_o : Ops := [
oo 6 (.asg (ci 0)), oo 7 (.asg (.c (.bool true)))]
def r_ingotref14_Compare_13 := rg r_ingotref14_Compare_13_o [6, 7]
@[go_sem] theorem r_ingotref14_Compare_13_u : Gr X K s r_ingotref14_Compare_13 r_ingotref14_Compare_13_o [6, 7] := go_region _ _
def c_ingotref14_Compare : ICode := (.seq r_ingotref14_Compare_0 (.seq r_ingotref14_Compare_1 (.cond (.t 19) (.seq r_ingotref14_Compare_2 .ret) (.seq r_ingotref14_Compare_3 (.cond (.t 22) (.seq (.block 0 (.seq r_ingotref14_Compare_4 (.cond (.t 23) (.seq r_ingotref14_Compare_5 .ret) (.seq r_ingotref14_Compare_6 (.cond (.t 31) (.seq r_ingotref14_Compare_7 .ret) .skip))))) (.seq r_ingotref14_Compare_8 .ret)) (.seq (.block 1 (.seq r_ingotref14_Compare_9 (.cond (.t 39) (.seq r_ingotref14_Compare_10 .ret) (.seq r_ingotref14_Compare_11 (.cond (.t 59) (.seq r_ingotref14_Compare_12 .ret) .skip))))) (.seq r_ingotref14_Compare_13 .ret)))))))
def i_ingotref14_Compare : IFunc := ⟨3, [.t 6, .t 7], c_ingotref14_Compare⟩
def a_ingotref14_Compare : Advice := ⟨[], [(13, [6, 7]), (10, [6, 7]), (12, [6, 7]), (11, [59]), (9, [4, 5, 39]), (8, [6, 7]), (5, [6, 7]), (7, [6, 7]), (6, [31]), (4, [4, 5, 23]), (3, [4, 5, 22]), (2, [6, 7]), (1, [3, 4, 5, 19]), (0, [3, 4, 5])], [], [], []⟩
/-! ingot/ingotref14.Kid -/
@[go_sem] def r_ingotref14_Kid_0_o : Ops := [
oo 3 (.box 6 (.t 0)), oo 4 (.box 5 (.t 1)), oo 6 (.alloc [(.int .i64 0), .nilS, .nilS, (.int .i64 0), (.int .i64 0), (.int .i64 0)])]
def r_ingotref14_Kid_0 := rg r_ingotref14_Kid_0_o [2, 3, 4, 6]
@[go_sem] theorem r_ingotref14_Kid_0_u : Gr X K s r_ingotref14_Kid_0 r_ingotref14_Kid_0_o [2, 3, 4, 6] := go_region _ _
@[go_sem] def r_ingotref14_Kid_1_o : Ops := [
oo 7 (.fieldA 0 (.t 3)), oo 8 (.load none (.t 7))]
def r_ingotref14_Kid_1 := rg r_ingotref14_Kid_1_o [2, 3, 4, 6, 8]
@[go_sem] theorem r_ingotref14_Kid_1_u : Gr X K s r_ingotref14_Kid_1 r_ingotref14_Kid_1_o [2, 3, 4, 6, 8] := go_region _ _
@[go_sem] def r_ingotref14_Kid_2_o : Ops := [
oo 10 (.bin .eql (.t 8) (ci 10)), oo 9 (.asg (.t 10))]
def r_ingotref14_Kid_2 := rg r_ingotref14_Kid_2_o [2, 3, 4, 6, 8, 9]
@[go_sem] theorem r_ingotref14_Kid_2_u : Gr X K s r_ingotref14_Kid_2 r_ingotref14_Kid_2_o [2, 3, 4, 6, 8, 9] := go_region _ _
@[go_sem] def r_ingotref14_Kid_3_o : Ops := [
oo 11 (.fieldA 2 (.t 3)), oo 12 (.load none (.t 11)), oo 13 (.idxA 6 (.t 12) (ci 0)), oo 14 (.load (some 6) (.t 13)), ow (.store 6 (.t 6) (.t 14))]
def r_ingotref14_Kid_3 := rg r_ingotref14_Kid_3_o [6]
@[go_sem] theorem r_ingotref14_Kid_3_u : Gr X K s r_ingotref14_Kid_3 r_ingotref14_Kid_3_o [6] := go_region _ _
@[go_sem] def r_ingotref14_Kid_4_o : Ops := [
oo 16 (.bin .eql (.t 8) (ci 11)), oo 15 (.asg (.t 16))]
def r_ingotref14_Kid_4 := rg r_ingotref14_Kid_4_o [2, 3, 4, 6, 8, 15]
@[go_sem] theorem r_ingotref14_Kid_4_u : Gr X K s r_ingotref14_Kid_4 r_ingotref14_Kid_4_o [2, 3, 4, 6, 8, 15] := go_region _ _
@[go_sem] def r_ingotref14_Kid_5_o : Ops := [
oo 17 (.fieldA 2 (.t 3)), oo 18 (.load none (.t 17)), oo 19 (.mv (.t 2)), oo 20 (.bin .rem (.t 19) (ci 2)), oo 21 (.idxA 6 (.t 18) (.t 20)), oo 22 (.load (some 6) (.t 21)), ow (.store 6 (.t 6) (.t 22))]
def r_ingotref14_Kid_5 := rg r_ingotref14_Kid_5_o [6]
@[go_sem] theorem r_ingotref14_Kid_5_u : Gr X K s r_ingotref14_Kid_5 r_ingotref14_Kid_5_o [6] := go_region _ _
@[go_sem] def r_ingotref14_Kid_6_o : Ops := [
oo 24 (.bin .eql (.t 8) (ci 13)), oo 23 (.asg (.t 24))]
def r_ingotref14_Kid_6 := rg r_ingotref14_Kid_6_o [2, 3, 4, 6, 23]
@[go_sem] theorem r_ingotref14_Kid_6_u : Gr X K s r_ingotref14_Kid_6 r_ingotref14_Kid_6_o [2, 3, 4, 6, 23] := go_region _ _
@[go_sem] def r_ingotref14_Kid_7_o : Ops := [
oo 25 (.fieldA 2 (.t 3)), oo 26 (.load none (.t 25)), oo 27 (.fieldA 1 (.t 4)), oo 28 (.load none (.t 27)), oo 29 (.idxA 6 (.t 26) (.t 28)), oo 30 (.load (some 6) (.t 29)), ow (.store 6 (.t 6) (.t 30))]
def r_ingotref14_Kid_7 := rg r_ingotref14_Kid_7_o [6]
@[go_sem] theorem r_ingotref14_Kid_7_u : Gr X K s r_ingotref14_Kid_7 r_ingotref14_Kid_7_o [6] := go_region _ _
@[go_sem] def r_ingotref14_Kid_8_o : Ops := [
oo 31 (.fieldA 2 (.t 3)), oo 32 (.load none (.t 31)), oo 33 (.mv (.t 2)), oo 34 (.idxA 6 (.t 32) (.t 33)), oo 35 (.load (some 6) (.t 34)), ow (.store 6 (.t 6) (.t 35))]
def r_ingotref14_Kid_8 := rg r_ingotref14_Kid_8_o [6]
@[go_sem] theorem r_ingotref14_Kid_8_u : Gr X K s r_ingotref14_Kid_8 r_ingotref14_Kid_8_o [6] := go_region _ _
def c_ingotref14_Kid : ICode := (.seq r_ingotref14_Kid_0 (.seq (.seq r_ingotref14_Kid_1 (.block 0 (.seq r_ingotref14_Kid_2 (.cond (.t 9) (.seq r_ingotref14_Kid_3 .ret) (.seq r_ingotref14_Kid_4 (.cond (.t 15) (.seq r_ingotref14_Kid_5 .ret) (.seq r_ingotref14_Kid_6 (.cond (.t 23) (.seq r_ingotref14_Kid_7 .ret) .skip)))))))) (.seq r_ingotref14_Kid_8 .ret)))
def i_ingotref14_Kid : IFunc := ⟨3, [.cell 6 (some 6)], c_ingotref14_Kid⟩
def a_ingotref14_Kid : Advice := ⟨[], [(8, [6]), (3, [6]), (5, [6]), (7, [6]), (6, [2, 3, 4, 6, 23]), (4, [2, 3, 4, 6, 8, 15]), (2, [2, 3, 4, 6, 8, 9]), (1, [2, 3, 4, 6, 8]), (0, [2, 3, 4, 6])], [], [], []⟩
/-! ingot/ingotref14.Signs -/
@[go_sem] def r_ingotref14_Signs_0_o : Ops := [
oo 2 (.asg (ci 0))]
def r_ingotref14_Signs_0 := rg r_ingotref14_Signs_0_o [0]
@[go_sem] theorem r_ingotref14_Signs_0_u : Gr X K s r_ingotref14_Signs_0 r_ingotref14_Signs_0_o [0] := go_region _ _
@[go_sem] def r_ingotref14_Signs_1_o : Ops := [
oo 3 (.asg (ci 0))]
def r_ingotref14_Signs_1 := rg r_ingotref14_Signs_1_o [0, 3]
@[go_sem] theorem r_ingotref14_Signs_1_u : Gr X K s r_ingotref14_Signs_1 r_ingotref14_Signs_1_o [0, 3] := go_region _ _
@[go_sem] def r_ingotref14_Signs_2_o : Ops := [
oo 4 (.asg (ci 0))]
def r_ingotref14_Signs_2 := rg r_ingotref14_Signs_2_o [0, 3, 4]
@[go_sem] theorem r_ingotref14_Signs_2_u : Gr X K s r_ingotref14_Signs_2 r_ingotref14_Signs_2_o [0, 3, 4] := go_region _ _
@[go_sem] def r_ingotref14_Signs_3_o : Ops := [
oo 5 (.mv (.t 4)), oo 6 (.mv (.t 0)), oo 7 (.len false (.t 6)), oo 8 (.bin .lss (.t 5) (.t 7))]
def r_ingotref14_Signs_3 := rg r_ingotref14_Signs_3_o [0, 3, 4, 8]
@[go_sem] theorem r_ingotref14_Signs_3_u : Gr X K s r_ingotref14_Signs_3 r_ingotref14_Signs_3_o [0, 3, 4, 8] := go_region _ _
@[go_sem] def r_ingotref14_Signs_4_o : Ops := [
oo 11 (.mv (.t 0)), oo 12 (.mv (.t 4)), oo 13 (.idxA 1 (.t 11) (.t 12)), oo 14 (.load none (.t 13)), oo 15 (.bin .shr (.t 14) (.c (.int .u64 6))), oo 16 (.bin .neq (.t 15) (.c (.int .u8 2)))]
def r_ingotref14_Signs_4 := rg r_ingotref14_Signs_4_o [0, 3, 4, 16]
@[go_sem] theorem r_ingotref14_Signs_4_u : Gr X K s r_ingotref14_Signs_4 r_ingotref14_Signs_4_o [0, 3, 4, 16] := go_region _ _
@[go_sem] def r_ingotref14_Signs_5_o : Ops := [
oo 17 (.mv (.t 3)), oo 18 (.bin .add (.t 17) (ci 1)), oo 3 (.asg (.t 18))]
def r_ingotref14_Signs_5 := rg r_ingotref14_Signs_5_o [0, 3, 4]
@[go_sem] theorem r_ingotref14_Signs_5_u : Gr X K s r_ingotref14_Signs_5 r_ingotref14_Signs_5_o [0, 3, 4] := go_region _ _
@[go_sem] def r_ingotref14_Signs_6_o : Ops := [
oo 9 (.mv (.t 4)), oo 10 (.bin .add (.t 9) (ci 1)), oo 4 (.asg (.t 10))]
def r_ingotref14_Signs_6 := rg r_ingotref14_Signs_6_o [0, 3, 4]
@[go_sem] theorem r_ingotref14_Signs_6_u : Gr X K s r_ingotref14_Signs_6 r_ingotref14_Signs_6_o [0, 3, 4] := go_region _ _
def b_ingotref14_Signs_7 : ICode := (.seq (.seq r_ingotref14_Signs_3 (.cond (.t 8) .skip (.exit 0))) (.seq (.block 1 (.seq r_ingotref14_Signs_4 (.cond (.t 16) r_ingotref14_Signs_5 .skip))) r_ingotref14_Signs_6))
@[go_sem] theorem b_ingotref14_Signs_7_u : Gn X K s b_ingotref14_Signs_7 (.seq (.seq r_ingotref14_Signs_3 (.cond (.t 8) .skip (.exit 0))) (.seq (.block 1 (.seq r_ingotref14_Signs_4 (.cond (.t 16) r_ingotref14_Signs_5 .skip))) r_ingotref14_Signs_6)) := rfl
@[go_sem] def r_ingotref14_Signs_8_o : Ops := [
oo 19 (.mv (.t 3)), oo 2 (.asg (.t 19))]
def r_ingotref14_Signs_8 := rg r_ingotref14_Signs_8_o [2]
@[go_sem] theorem r_ingotref14_Signs_8_u : Gr X K s r_ingotref14_Signs_8 r_ingotref14_Signs_8_o [2] := go_region _ _
def c_ingotref14_Signs : ICode := (.seq r_ingotref14_Signs_0 (.seq r_ingotref14_Signs_1 (.seq (.seq r_ingotref14_Signs_2 (.block 0 (.loop b_ingotref14_Signs_7))) (.seq r_ingotref14_Signs_8 .ret))))
def i_ingotref14_Signs : IFunc := ⟨1, [.t 2], c_ingotref14_Signs⟩
def a_ingotref14_Signs : Advice := ⟨[], [(7, [2]), (4, [0, 3, 4]), (6, [0, 3, 4]), (5, [0, 3, 4, 16]), (3, [0, 3, 4, 8]), (2, [0, 3, 4]), (1, [0, 3]), (0, [0])], [], [], []⟩
/-! ingot/ingotref13.Leaf -/
@[go_sem] def r_ingotref13_Leaf_0_o : Ops := [
oo 2 (.asg (.c (.bool false)))]
def r_ingotref13_Leaf_0 := rg r_ingotref13_Leaf_0_o [0]
@[go_sem] theorem r_ingotref13_Leaf_0_u : Gr X K s r_ingotref13_Leaf_0 r_ingotref13_Leaf_0_o [0] := go_region _ _
@[go_sem] def r_ingotref13_Leaf_1_o : Ops := [
oo 3 (.mv (.t 0)), oo 4 (.bin .neq (.t 3) (ci 10)), oo 5 (.mv (.t 4)), og 6 5 true (.mv (.t 0)), og 7 5 true (.bin .neq (.t 6) (ci 11)), oo 8 (.pick (.t 5) (.t 7) (.c (.bool false))), oo 9 (.mv (.t 8)), og 10 9 true (.mv (.t 0)), og 11 9 true (.bin .neq (.t 10) (ci 12)), oo 12 (.pick (.t 9) (.t 11) (.c (.bool false))), oo 13 (.mv (.t 12)), og 14 13 true (.mv (.t 0)), og 15 13 true (.bin .neq (.t 14) (ci 13)), oo 16 (.pick (.t 13) (.t 15) (.c (.bool false))), oo 2 (.asg (.t 16))]
def r_ingotref13_Leaf_1 := rg r_ingotref13_Leaf_1_o [2]
@[go_sem] theorem r_ingotref13_Leaf_1_u : Gr X K s r_ingotref13_Leaf_1 r_ingotref13_Leaf_1_o [2] := go_region _ _
def c_ingotref13_Leaf : ICode := (.seq r_ingotref13_Leaf_0 (.seq r_ingotref13_Leaf_1 .ret))
def i_ingotref13_Leaf : IFunc := ⟨1, [.t 2], c_ingotref13_Leaf⟩
def a_ingotref13_Leaf : Advice := ⟨[], [(1, [2]), (0, [0])], [], [], []⟩
/-! ingot/ingotref14.Texts -/
@[go_sem] def r_ingotref14_Texts_0_o : Ops := [
oo 2 (.asg (.c (.bool false)))]
def r_ingotref14_Texts_0 := rg r_ingotref14_Texts_0_o [0]
@[go_sem] theorem r_ingotref14_Texts_0_u : Gr X K s r_ingotref14_Texts_0 r_ingotref14_Texts_0_o [0] := go_region _ _
@[go_sem] def r_ingotref14_Texts_1_o : Ops := [
oo 3 (.mv (.t 0)), oo 4 (.bin .eql (.t 3) (ci 7)), oo 5 (.mv (.t 4)), og 6 5 false (.mv (.t 0)), og 7 5 false (.bin .eql (.t 6) (ci 16)), oo 8 (.pick (.t 5) (.c (.bool true)) (.t 7)), oo 9 (.mv (.t 8)), og 10 9 false (.mv (.t 0)), og 11 9 false (.bin .eql (.t 10) (ci 17)), oo 12 (.pick (.t 9) (.c (.bool true)) (.t 11)), oo 13 (.mv (.t 12)), og 14 13 false (.mv (.t 0)), og 15 13 false (.bin .eql (.t 14) (ci 8)), oo 16 (.pick (.t 13) (.c (.bool true)) (.t 15)), oo 2 (.asg (.t 16))]
def r_ingotref14_Texts_1 := rg r_ingotref14_Texts_1_o [2]
@[go_sem] theorem r_ingotref14_Texts_1_u : Gr X K s r_ingotref14_Texts_1 r_ingotref14_Texts_1_o [2] := go_region _ _
def c_ingotref14_Texts : ICode := (.seq r_ingotref14_Texts_0 (.seq r_ingotref14_Texts_1 .ret))
def i_ingotref14_Texts : IFunc := ⟨1, [.t 2], c_ingotref14_Texts⟩
def a_ingotref14_Texts : Advice := ⟨[], [(1, [2]), (0, [0])], [], [], []⟩
/-! ingot/ingotref12.Check -/
@[go_sem] def r_ingotref12_Check_0_o : Ops := [
oo 4 (.asg (.c (.bool false)))]
def r_ingotref12_Check_0 := rg r_ingotref12_Check_0_o [0, 1]
@[go_sem] theorem r_ingotref12_Check_0_u : Gr X K s r_ingotref12_Check_0 r_ingotref12_Check_0_o [0, 1] := go_region _ _
@[go_sem] def r_ingotref12_Check_1_o : Ops := [
oo 5 (.mv (.t 0)), oo 6 (.bin .geq (.t 5) (ci (-1099511627776))), oo 7 (.mv (.t 6)), og 8 7 true (.mv (.t 0)), og 9 7 true (.bin .leq (.t 8) (ci 1099511627776)), oo 10 (.pick (.t 7) (.t 9) (.c (.bool false))), oo 11 (.mv (.t 10)), og 12 11 true (.mv (.t 1)), og 13 11 true (.bin .geq (.t 12) (ci 0)), oo 14 (.pick (.t 11) (.t 13) (.c (.bool false))), oo 15 (.mv (.t 14)), og 16 15 true (.mv (.t 1)), og 17 15 true (.bin .lss (.t 16) (ci 1000000000)), oo 18 (.pick (.t 15) (.t 17) (.c (.bool false))), oo 4 (.asg (.t 18))]
def r_ingotref12_Check_1 := rg r_ingotref12_Check_1_o [4]
@[go_sem] theorem r_ingotref12_Check_1_u : Gr X K s r_ingotref12_Check_1 r_ingotref12_Check_1_o [4] := go_region _ _
def c_ingotref12_Check : ICode := (.seq r_ingotref12_Check_0 (.seq r_ingotref12_Check_1 .ret))
def i_ingotref12_Check : IFunc := ⟨2, [.t 4], c_ingotref12_Check⟩
def a_ingotref12_Check : Advice := ⟨[], [(1, [4]), (0, [0, 1])], [], [], []⟩
/-! ingot/ingotref11.digits -/
@[go_sem] def r_ingotref11_digits_0_o : Ops := [
oo 2 (.asg (.c (.str [])))]
def r_ingotref11_digits_0 := rg r_ingotref11_digits_0_o [0]
@[go_sem] theorem r_ingotref11_digits_0_u : Gr X K s r_ingotref11_digits_0 r_ingotref11_digits_0_o [0] := go_region _ _
@[go_sem] def r_ingotref11_digits_1_o : Ops := [
oo 4 (.mv (.t 0)), oo 5 (.bin .rem (.t 4) (.c (.int .u64 10))), oo 6 (.bin .add (.c (.int .u64 48)) (.t 5)), oo 7 (.cvInt .u8 (.t 6)), oo 8 (.lit false 1 1 (.int .u8 0) [(0, (.t 7))]), oo 9 (.b2s (.t 8)), oo 3 (.asg (.t 9))]
def r_ingotref11_digits_1 := rg r_ingotref11_digits_1_o [0, 3]
@[go_sem] theorem r_ingotref11_digits_1_u : Gr X K s r_ingotref11_digits_1 r_ingotref11_digits_1_o [0, 3] := go_region _ _
@[go_sem] def r_ingotref11_digits_2_o : Ops := [
oo 10 (.mv (.t 0)), oo 11 (.bin .geq (.t 10) (.c (.int .u64 10)))]
def r_ingotref11_digits_2 := rg r_ingotref11_digits_2_o [0, 3, 11]
@[go_sem] theorem r_ingotref11_digits_2_u : Gr X K s r_ingotref11_digits_2 r_ingotref11_digits_2_o [0, 3, 11] := go_region _ _
@[go_sem] def r_ingotref11_digits_3_o : Ops := [
oo 12 (.mv (.t 0)), oo 13 (.bin .quo (.t 12) (.c (.int .u64 10))), oo 0 (.asg (.t 13))]
def r_ingotref11_digits_3 := rg r_ingotref11_digits_3_o [0, 3]
@[go_sem] theorem r_ingotref11_digits_3_u : Gr X K s r_ingotref11_digits_3 r_ingotref11_digits_3_o [0, 3] := go_region _ _
@[go_sem] def r_ingotref11_digits_4_o : Ops := [
oo 14 (.mv (.t 0)), oo 15 (.bin .rem (.t 14) (.c (.int .u64 10))), oo 16 (.bin .add (.c (.int .u64 48)) (.t 15)), oo 17 (.cvInt .u8 (.t 16)), oo 18 (.lit false 1 1 (.int .u8 0) [(0, (.t 17))]), oo 19 (.b2s (.t 18)), oo 20 (.mv (.t 3)), oo 21 (.bin .add (.t 19) (.t 20)), oo 3 (.asg (.t 21))]
def r_ingotref11_digits_4 := rg r_ingotref11_digits_4_o [0, 3]
@[go_sem] theorem r_ingotref11_digits_4_u : Gr X K s r_ingotref11_digits_4 r_ingotref11_digits_4_o [0, 3] := go_region _ _
def b_ingotref11_digits_5 : ICode := (.seq (.seq r_ingotref11_digits_2 (.cond (.t 11) .skip (.exit 0))) (.block 1 (.seq r_ingotref11_digits_3 r_ingotref11_digits_4)))
@[go_sem] theorem b_ingotref11_digits_5_u : Gn X K s b_ingotref11_digits_5 (.seq (.seq r_ingotref11_digits_2 (.cond (.t 11) .skip (.exit 0))) (.block 1 (.seq r_ingotref11_digits_3 r_ingotref11_digits_4))) := rfl
@[go_sem] def r_ingotref11_digits_6_o : Ops := [
oo 22 (.mv (.t 3)), oo 2 (.asg (.t 22))]
def r_ingotref11_digits_6 := rg r_ingotref11_digits_6_o [2]
@[go_sem] theorem r_ingotref11_digits_6_u : Gr X K s r_ingotref11_digits_6 r_ingotref11_digits_6_o [2] := go_region _ _
def c_ingotref11_digits : ICode := (.seq r_ingotref11_digits_0 (.seq r_ingotref11_digits_1 (.seq (.block 0 (.loop b_ingotref11_digits_5)) (.seq r_ingotref11_digits_6 .ret))))
def i_ingotref11_digits : IFunc := ⟨1, [.t 2], c_ingotref11_digits⟩
def a_ingotref11_digits : Advice := ⟨[], [(5, [2]), (4, [0, 3]), (3, [0, 3]), (2, [0, 3, 11]), (1, [0, 3]), (0, [0])], [], [], []⟩
/-! ingot/ingotref11.size -/
@[go_sem] def r_ingotref11_size_0_o : Ops := [
oo 2 (.asg (.c (.int .u64 0)))]
def r_ingotref11_size_0 := rg r_ingotref11_size_0_o [0]
@[go_sem] theorem r_ingotref11_size_0_u : Gr X K s r_ingotref11_size_0 r_ingotref11_size_0_o [0] := go_region _ _
@[go_sem] def r_ingotref11_size_1_o : Ops := [
oo 3 (.mv (.t 0)), oo 4 (.bin .lss (.t 3) (ci 0))]
def r_ingotref11_size_1 := rg r_ingotref11_size_1_o [0, 4]
@[go_sem] theorem r_ingotref11_size_1_u : Gr X K s r_ingotref11_size_1 r_ingotref11_size_1_o [0, 4] := go_region _ _
@[go_sem] def r_ingotref11_size_2_o : Ops := [
oo 5 (.mv (.t 0)), oo 6 (.bin .add (.t 5) (ci 1)), oo 7 (.bin .sub (ci 0) (.t 6)), oo 8 (.cvInt .u64 (.t 7)), oo 9 (.bin .add (.t 8) (.c (.int .u64 1))), oo 2 (.asg (.t 9))]
def r_ingotref11_size_2 := rg r_ingotref11_size_2_o [2]
@[go_sem] theorem r_ingotref11_size_2_u : Gr X K s r_ingotref11_size_2 r_ingotref11_size_2_o [2] := go_region _ _
@[go_sem] def r_ingotref11_size_3_o : Ops := [
oo 10 (.mv (.t 0)), oo 11 (.cvInt .u64 (.t 10)), oo 2 (.asg (.t 11))]
def r_ingotref11_size_3 := rg r_ingotref11_size_3_o [2]
@[go_sem] theorem r_ingotref11_size_3_u : Gr X K s r_ingotref11_size_3 r_ingotref11_size_3_o [2] := go_region _ _
def c_ingotref11_size : ICode := (.seq r_ingotref11_size_0 (.seq r_ingotref11_size_1 (.cond (.t 4) (.seq r_ingotref11_size_2 .ret) (.seq r_ingotref11_size_3 .ret))))
def i_ingotref11_size : IFunc := ⟨1, [.t 2], c_ingotref11_size⟩
def a_ingotref11_size : Advice := ⟨[], [(3, [2]), (2, [2]), (1, [0, 4]), (0, [0])], [], [], []⟩
/-! ingot/ingotref11.Digits -/
@[go_sem] def r_ingotref11_Digits_0_o : Ops := [
oo 2 (.asg (ci 0))]
def r_ingotref11_Digits_0 := rg r_ingotref11_Digits_0_o [0]
@[go_sem] theorem r_ingotref11_Digits_0_u : Gr X K s r_ingotref11_Digits_0 r_ingotref11_Digits_0_o [0] := go_region _ _
@[go_sem] def r_ingotref11_Digits_1_o : Ops := [
oo 3 (.mv (.t 0)), oo 4 (.call false n_ingotref11_size [(.t 3)]), oo 5 (.call false n_ingotref11_digits [(.t 4)]), oo 6 (.len true (.t 5)), oo 2 (.asg (.t 6))]
def r_ingotref11_Digits_1 := rg r_ingotref11_Digits_1_o [2]
@[go_sem] theorem r_ingotref11_Digits_1_u : Gr X K s r_ingotref11_Digits_1 r_ingotref11_Digits_1_o [2] := go_region _ _
def c_ingotref11_Digits : ICode := (.seq r_ingotref11_Digits_0 (.seq r_ingotref11_Digits_1 .ret))
def i_ingotref11_Digits : IFunc := ⟨1, [.t 2], c_ingotref11_Digits⟩
def a_ingotref11_Digits : Advice := ⟨[], [(1, [2]), (0, [0])], [], [], []⟩
/-! ingot/ingotref14.Numbers -/
@[go_sem] def r_ingotref14_Numbers_0_o : Ops := [
oo 3 (.box 6 (.t 0)), oo 6 (.asg (.c (.bool false)))]
def r_ingotref14_Numbers_0 := rg r_ingotref14_Numbers_0_o [1, 2, 3]
@[go_sem] theorem r_ingotref14_Numbers_0_u : Gr X K s r_ingotref14_Numbers_0 r_ingotref14_Numbers_0_o [1, 2, 3] := go_region _ _
@[go_sem] def r_ingotref14_Numbers_1_o : Ops := [
oo 7 (.mv (.t 2)), oo 8 (.bin .neq (.t 7) (ci 0)), oo 9 (.mv (.t 8)), og 10 9 true (.fieldA 0 (.t 3)), og 11 9 true (.load none (.t 10)), og 12 9 true (.bin .neq (.t 11) (ci 9)), oo 13 (.pick (.t 9) (.t 12) (.c (.bool false)))]
def r_ingotref14_Numbers_1 := rg r_ingotref14_Numbers_1_o [1, 2, 3, 13]
@[go_sem] theorem r_ingotref14_Numbers_1_u : Gr X K s r_ingotref14_Numbers_1 r_ingotref14_Numbers_1_o [1, 2, 3, 13] := go_region _ _
@[go_sem] def r_ingotref14_Numbers_2_o : Ops := [
oo 6 (.asg (.c (.bool false)))]
def r_ingotref14_Numbers_2 := rg r_ingotref14_Numbers_2_o [6]
@[go_sem] theorem r_ingotref14_Numbers_2_u : Gr X K s r_ingotref14_Numbers_2 r_ingotref14_Numbers_2_o [6] := go_region _ _
@[go_sem] def r_ingotref14_Numbers_3_o : Ops := [
oo 14 (.fieldA 0 (.t 3)), oo 15 (.load none (.t 14))]
def r_ingotref14_Numbers_3 := rg r_ingotref14_Numbers_3_o [1, 2, 3, 15]
@[go_sem] theorem r_ingotref14_Numbers_3_u : Gr X K s r_ingotref14_Numbers_3 r_ingotref14_Numbers_3_o [1, 2, 3, 15] := go_region _ _
@[go_sem] def r_ingotref14_Numbers_4_o : Ops := [
oo 17 (.bin .eql (.t 15) (ci 0)), oo 16 (.asg (.t 17))]
def r_ingotref14_Numbers_4 := rg r_ingotref14_Numbers_4_o [1, 2, 3, 15, 16]
@[go_sem] theorem r_ingotref14_Numbers_4_u : Gr X K s r_ingotref14_Numbers_4 r_ingotref14_Numbers_4_o [1, 2, 3, 15, 16] := go_region _ _
@[go_sem] def r_ingotref14_Numbers_5_o : Ops := [
oo 18 (.mv (.t 1)), oo 19 (.bin .eql (.t 18) (ci 0)), oo 20 (.mv (.t 19)), og 21 20 false (.mv (.t 1)), og 22 20 false (.bin .eql (.t 21) (ci 1)), oo 23 (.pick (.t 20) (.c (.bool true)) (.t 22)), oo 6 (.asg (.t 23))]
def r_ingotref14_Numbers_5 := rg r_ingotref14_Numbers_5_o [6]
@[go_sem] theorem r_ingotref14_Numbers_5_u : Gr X K s r_ingotref14_Numbers_5 r_ingotref14_Numbers_5_o [6] := go_region _ _
@[go_sem] def r_ingotref14_Numbers_6_o : Ops := [
oo 25 (.bin .eql (.t 15) (ci 1)), oo 24 (.asg (.t 25))]
def r_ingotref14_Numbers_6 := rg r_ingotref14_Numbers_6_o [1, 2, 3, 15, 24]
@[go_sem] theorem r_ingotref14_Numbers_6_u : Gr X K s r_ingotref14_Numbers_6 r_ingotref14_Numbers_6_o [1, 2, 3, 15, 24] := go_region _ _
@[go_sem] def r_ingotref14_Numbers_7_o : Ops := [
oo 26 (.mv (.t 1)), oo 27 (.bin .geq (.t 26) (ci (-128))), oo 28 (.mv (.t 27)), og 29 28 true (.mv (.t 1)), og 30 28 true (.bin .leq (.t 29) (ci 127)), oo 31 (.pick (.t 28) (.t 30) (.c (.bool false))), oo 6 (.asg (.t 31))]
def r_ingotref14_Numbers_7 := rg r_ingotref14_Numbers_7_o [6]
@[go_sem] theorem r_ingotref14_Numbers_7_u : Gr X K s r_ingotref14_Numbers_7 r_ingotref14_Numbers_7_o [6] := go_region _ _
@[go_sem] def r_ingotref14_Numbers_8_o : Ops := [
oo 33 (.bin .eql (.t 15) (ci 2)), oo 32 (.asg (.t 33))]
def r_ingotref14_Numbers_8 := rg r_ingotref14_Numbers_8_o [1, 2, 3, 15, 32]
@[go_sem] theorem r_ingotref14_Numbers_8_u : Gr X K s r_ingotref14_Numbers_8 r_ingotref14_Numbers_8_o [1, 2, 3, 15, 32] := go_region _ _
@[go_sem] def r_ingotref14_Numbers_9_o : Ops := [
oo 34 (.mv (.t 1)), oo 35 (.bin .geq (.t 34) (ci (-32768))), oo 36 (.mv (.t 35)), og 37 36 true (.mv (.t 1)), og 38 36 true (.bin .leq (.t 37) (ci 32767)), oo 39 (.pick (.t 36) (.t 38) (.c (.bool false))), oo 6 (.asg (.t 39))]
def r_ingotref14_Numbers_9 := rg r_ingotref14_Numbers_9_o [6]
@[go_sem] theorem r_ingotref14_Numbers_9_u : Gr X K s r_ingotref14_Numbers_9 r_ingotref14_Numbers_9_o [6] := go_region _ _
@[go_sem] def r_ingotref14_Numbers_10_o : Ops := [
oo 41 (.bin .eql (.t 15) (ci 3)), oo 40 (.asg (.t 41))]
def r_ingotref14_Numbers_10 := rg r_ingotref14_Numbers_10_o [1, 2, 3, 15, 40]
@[go_sem] theorem r_ingotref14_Numbers_10_u : Gr X K s r_ingotref14_Numbers_10 r_ingotref14_Numbers_10_o [1, 2, 3, 15, 40] := go_region _ _
@[go_sem] def r_ingotref14_Numbers_11_o : Ops := [
oo 42 (.bin .eql (.t 15) (ci 15)), oo 40 (.asg (.t 42))]
def r_ingotref14_Numbers_11 := rg r_ingotref14_Numbers_11_o [1, 2, 3, 15, 40]
@[go_sem] theorem r_ingotref14_Numbers_11_u : Gr X K s r_ingotref14_Numbers_11 r_ingotref14_Numbers_11_o [1, 2, 3, 15, 40] := go_region _ _
@[go_sem] def r_ingotref14_Numbers_12_o : Ops := [
oo 43 (.mv (.t 1)), oo 44 (.bin .geq (.t 43) (ci (-2147483648))), oo 45 (.mv (.t 44)), og 46 45 true (.mv (.t 1)), og 47 45 true (.bin .leq (.t 46) (ci 2147483647)), oo 48 (.pick (.t 45) (.t 47) (.c (.bool false))), oo 6 (.asg (.t 48))]
def r_ingotref14_Numbers_12 := rg r_ingotref14_Numbers_12_o [6]
@[go_sem] theorem r_ingotref14_Numbers_12_u : Gr X K s r_ingotref14_Numbers_12 r_ingotref14_Numbers_12_o [6] := go_region _ _
@[go_sem] def r_ingotref14_Numbers_13_o : Ops := [
oo 50 (.bin .eql (.t 15) (ci 4)), oo 49 (.asg (.t 50))]
def r_ingotref14_Numbers_13 := rg r_ingotref14_Numbers_13_o [1, 2, 3, 15, 49]
@[go_sem] theorem r_ingotref14_Numbers_13_u : Gr X K s r_ingotref14_Numbers_13 r_ingotref14_Numbers_13_o [1, 2, 3, 15, 49] := go_region _ _
@[go_sem] def r_ingotref14_Numbers_14_o : Ops := [
oo 6 (.asg (.c (.bool true)))]
def r_ingotref14_Numbers_14 := rg r_ingotref14_Numbers_14_o [6]
@[go_sem] theorem r_ingotref14_Numbers_14_u : Gr X K s r_ingotref14_Numbers_14 r_ingotref14_Numbers_14_o [6] := go_region _ _
@[go_sem] def r_ingotref14_Numbers_15_o : Ops := [
oo 52 (.bin .eql (.t 15) (ci 14)), oo 51 (.asg (.t 52))]
def r_ingotref14_Numbers_15 := rg r_ingotref14_Numbers_15_o [1, 2, 3, 15, 51]
@[go_sem] theorem r_ingotref14_Numbers_15_u : Gr X K s r_ingotref14_Numbers_15 r_ingotref14_Numbers_15_o [1, 2, 3, 15, 51] := go_region _ _
@[go_sem] def r_ingotref14_Numbers_16_o : Ops := [
oo 53 (.mv (.t 1)), oo 54 (.call false n_ingotref11_Digits [(.t 53)]), oo 55 (.fieldA 4 (.t 3)), oo 56 (.load none (.t 55)), oo 57 (.bin .leq (.t 54) (.t 56)), oo 6 (.asg (.t 57))]
def r_ingotref14_Numbers_16_n : List (Nat × Nat) := [(0, 2), (1, 2), (0, 3), (1, 3)]
def r_ingotref14_Numbers_16 : ICode := .region r_ingotref14_Numbers_16_o r_ingotref14_Numbers_16_n [6]
@[go_sem] theorem r_ingotref14_Numbers_16_u : go X (.c r_ingotref14_Numbers_16 :: K) s = goRU X [] r_ingotref14_Numbers_16_n r_ingotref14_Numbers_16_o [6] K s := go_regionU' _ _ _ _
@[go_sem] def r_ingotref14_Numbers_17_o : Ops := [
oo 59 (.bin .eql (.t 15) (ci 9)), oo 58 (.asg (.t 59))]
def r_ingotref14_Numbers_17 := rg r_ingotref14_Numbers_17_o [1, 2, 3, 15, 58]
@[go_sem] theorem r_ingotref14_Numbers_17_u : Gr X K s r_ingotref14_Numbers_17 r_ingotref14_Numbers_17_o [1, 2, 3, 15, 58] := go_region _ _
@[go_sem] def r_ingotref14_Numbers_18_o : Ops := [
oo 60 (.mv (.t 1)), oo 61 (.mv (.t 2)), oo 62 (.call false n_ingotref12_Check [(.t 60), (.t 61)]), oo 6 (.asg (.t 62))]
def r_ingotref14_Numbers_18 := rg r_ingotref14_Numbers_18_o [6]
@[go_sem] theorem r_ingotref14_Numbers_18_u : Gr X K s r_ingotref14_Numbers_18 r_ingotref14_Numbers_18_o [6] := go_region _ _
@[go_sem] def r_ingotref14_Numbers_19_o : Ops := [
oo 64 (.bin .eql (.t 15) (ci 13)), oo 63 (.asg (.t 64))]
def r_ingotref14_Numbers_19 := rg r_ingotref14_Numbers_19_o [1, 3, 63]
@[go_sem] theorem r_ingotref14_Numbers_19_u : Gr X K s r_ingotref14_Numbers_19 r_ingotref14_Numbers_19_o [1, 3, 63] := go_region _ _
@[go_sem] def r_ingotref14_Numbers_20_o : Ops := [
oo 65 (.mv (.t 1)), oo 66 (.bin .geq (.t 65) (ci 0)), oo 67 (.mv (.t 66)), og 68 67 true (.mv (.t 1)), og 69 67 true (.fieldA 2 (.t 3)), og 70 67 true (.load none (.t 69)), og 71 67 true (.len false (.t 70)), og 72 67 true (.bin .lss (.t 68) (.t 71)), oo 73 (.pick (.t 67) (.t 72) (.c (.bool false))), oo 6 (.asg (.t 73))]
def r_ingotref14_Numbers_20 := rg r_ingotref14_Numbers_20_o [6]
@[go_sem] theorem r_ingotref14_Numbers_20_u : Gr X K s r_ingotref14_Numbers_20 r_ingotref14_Numbers_20_o [6] := go_region _ _
@[go_sem] def r_ingotref14_Numbers_21_o : Ops := [
oo 74 (.mv (.t 1)), oo 75 (.bin .eql (.t 74) (ci 0)), oo 6 (.asg (.t 75))]
def r_ingotref14_Numbers_21 := rg r_ingotref14_Numbers_21_o [6]
@[go_sem] theorem r_ingotref14_Numbers_21_u : Gr X K s r_ingotref14_Numbers_21 r_ingotref14_Numbers_21_o [6] := go_region _ _
def c_ingotref14_Numbers : ICode := (.seq r_ingotref14_Numbers_0 (.seq r_ingotref14_Numbers_1 (.cond (.t 13) (.seq r_ingotref14_Numbers_2 .ret) (.seq (.seq r_ingotref14_Numbers_3 (.block 0 (.seq r_ingotref14_Numbers_4 (.cond (.t 16) (.seq r_ingotref14_Numbers_5 .ret) (.seq r_ingotref14_Numbers_6 (.cond (.t 24) (.seq r_ingotref14_Numbers_7 .ret) (.seq r_ingotref14_Numbers_8 (.cond (.t 32) (.seq r_ingotref14_Numbers_9 .ret) (.seq (.seq r_ingotref14_Numbers_10 (.cond (.t 40) .skip r_ingotref14_Numbers_11)) (.cond (.t 40) (.seq r_ingotref14_Numbers_12 .ret) (.seq r_ingotref14_Numbers_13 (.cond (.t 49) (.seq r_ingotref14_Numbers_14 .ret) (.seq r_ingotref14_Numbers_15 (.cond (.t 51) (.seq r_ingotref14_Numbers_16 .ret) (.seq r_ingotref14_Numbers_17 (.cond (.t 58) (.seq r_ingotref14_Numbers_18 .ret) (.seq r_ingotref14_Numbers_19 (.cond (.t 63) (.seq r_ingotref14_Numbers_20 .ret) .skip)))))))))))))))))) (.seq r_ingotref14_Numbers_21 .ret)))))
def i_ingotref14_Numbers : IFunc := ⟨3, [.t 6], c_ingotref14_Numbers⟩
def a_ingotref14_Numbers : Advice := ⟨[], [(21, [6]), (5, [6]), (7, [6]), (9, [6]), (12, [6]), (14, [6]), (16, [6]), (18, [6]), (20, [6]), (19, [1, 3, 63]), (17, [1, 2, 3, 15, 58]), (15, [1, 2, 3, 15, 51]), (13, [1, 2, 3, 15, 49]), (11, [1, 2, 3, 15, 40]), (10, [1, 2, 3, 15, 40]), (8, [1, 2, 3, 15, 32]), (6, [1, 2, 3, 15, 24]), (4, [1, 2, 3, 15, 16]), (3, [1, 2, 3, 15]), (2, [6]), (1, [1, 2, 3, 13]), (0, [1, 2, 3])], [], [], []⟩
/-! ingot/ingotref14.Check -/
@[go_sem] def r_ingotref14_Check_0_o : Ops := [
oo 2 (.box 6 (.t 0)), oo 3 (.box 5 (.t 1)), oo 4 (.asg (ci 0))]
def r_ingotref14_Check_0 := rg r_ingotref14_Check_0_o [2, 3]
@[go_sem] theorem r_ingotref14_Check_0_u : Gr X K s r_ingotref14_Check_0 r_ingotref14_Check_0_o [2, 3] := go_region _ _
@[go_sem] def r_ingotref14_Check_1_o : Ops := [
oo 8 (.fieldA 0 (.t 3)), oo 9 (.load none (.t 8))]
def r_ingotref14_Check_1 := rg r_ingotref14_Check_1_o [2, 3, 9]
@[go_sem] theorem r_ingotref14_Check_1_u : Gr X K s r_ingotref14_Check_1 r_ingotref14_Check_1_o [2, 3, 9] := go_region _ _
@[go_sem] def r_ingotref14_Check_2_o : Ops := [
oo 10 (.fieldA 1 (.t 3)), oo 11 (.load none (.t 10)), oo 12 (.bin .neq (.t 11) (ci 0)), oo 13 (.mv (.t 12)), og 14 13 false (.fieldA 2 (.t 3)), og 15 13 false (.load none (.t 14)), og 16 13 false (.bin .neq (.t 15) (ci 0)), oo 17 (.pick (.t 13) (.c (.bool true)) (.t 16)), oo 18 (.mv (.t 17)), og 19 18 false (.fieldA 3 (.t 3)), og 20 18 false (.load none (.t 19)), og 21 18 false (.len false (.t 20)), og 22 18 false (.bin .gtr (.t 21) (ci 0)), oo 23 (.pick (.t 18) (.c (.bool true)) (.t 22)), oo 24 (.mv (.t 23)), og 25 24 false (.fieldA 4 (.t 3)), og 26 24 false (.load none (.t 25)), og 27 24 false (.len false (.t 26)), og 28 24 false (.bin .gtr (.t 27) (ci 0)), oo 29 (.pick (.t 24) (.c (.bool true)) (.t 28))]
def r_ingotref14_Check_2 := rg r_ingotref14_Check_2_o [29]
@[go_sem] theorem r_ingotref14_Check_2_u : Gr X K s r_ingotref14_Check_2 r_ingotref14_Check_2_o [29] := go_region _ _
@[go_sem] def r_ingotref14_Check_3_o : Ops := [
oo 4 (.asg (ci 1))]
def r_ingotref14_Check_3 := rg r_ingotref14_Check_3_o [4]
@[go_sem] theorem r_ingotref14_Check_3_u : Gr X K s r_ingotref14_Check_3 r_ingotref14_Check_3_o [4] := go_region _ _
@[go_sem] def r_ingotref14_Check_4_o : Ops := [
oo 4 (.asg (ci 0))]
def r_ingotref14_Check_4 := rg r_ingotref14_Check_4_o [4]
@[go_sem] theorem r_ingotref14_Check_4_u : Gr X K s r_ingotref14_Check_4 r_ingotref14_Check_4_o [4] := go_region _ _
@[go_sem] def r_ingotref14_Check_5_o : Ops := [
oo 30 (.load (some 6) (.t 2)), oo 31 (.fieldA 1 (.t 3)), oo 32 (.load none (.t 31)), oo 33 (.fieldA 2 (.t 3)), oo 34 (.load none (.t 33)), oo 35 (.call false n_ingotref14_Numbers [(.t 30), (.t 32), (.t 34)]), oo 36 (.un .not (.t 35)), oo 37 (.mv (.t 36)), og 38 37 false (.fieldA 3 (.t 3)), og 39 37 false (.load none (.t 38)), og 40 37 false (.len false (.t 39)), og 41 37 false (.bin .gtr (.t 40) (ci 0)), og 42 37 false (.mv (.t 41)), og 43 42 true (.fieldA 0 (.t 2)), og 44 42 true (.load none (.t 43)), og 45 42 true (.call false n_ingotref14_Texts [(.t 44)]), og 46 42 true (.un .not (.t 45)), og 47 37 false (.pick (.t 42) (.t 46) (.c (.bool false))), oo 48 (.pick (.t 37) (.c (.bool true)) (.t 47)), oo 49 (.mv (.t 48)), og 50 49 false (.fieldA 4 (.t 3)), og 51 49 false (.load none (.t 50)), og 52 49 false (.len false (.t 51)), og 53 49 false (.bin .gtr (.t 52) (ci 0)), og 54 49 false (.mv (.t 53)), og 55 54 true (.fieldA 0 (.t 2)), og 56 54 true (.load none (.t 55)), og 57 54 true (.call false n_ingotref13_Leaf [(.t 56)]), og 58 49 false (.pick (.t 54) (.t 57) (.c (.bool false))), oo 59 (.pick (.t 49) (.c (.bool true)) (.t 58))]
def r_ingotref14_Check_5 := rg r_ingotref14_Check_5_o [2, 3, 59]
@[go_sem] theorem r_ingotref14_Check_5_u : Gr X K s r_ingotref14_Check_5 r_ingotref14_Check_5_o [2, 3, 59] := go_region _ _
@[go_sem] def r_ingotref14_Check_6_o : Ops := [
oo 4 (.asg (ci 1))]
def r_ingotref14_Check_6 := rg r_ingotref14_Check_6_o [4]
@[go_sem] theorem r_ingotref14_Check_6_u : Gr X K s r_ingotref14_Check_6 r_ingotref14_Check_6_o [4] := go_region _ _
@[go_sem] def r_ingotref14_Check_7_o : Ops := [
oo 60 (.fieldA 3 (.t 3)), oo 61 (.load none (.t 60)), oo 62 (.len false (.t 61)), oo 63 (.bin .gtr (.t 62) (ci 4096)), oo 64 (.mv (.t 63)), og 65 64 false (.fieldA 0 (.t 2)), og 66 64 false (.load none (.t 65)), og 67 64 false (.bin .eql (.t 66) (ci 16)), og 68 64 false (.mv (.t 67)), og 69 68 false (.fieldA 0 (.t 2)), og 70 68 false (.load none (.t 69)), og 71 68 false (.bin .eql (.t 70) (ci 17)), og 72 64 false (.pick (.t 68) (.c (.bool true)) (.t 71)), og 73 64 false (.mv (.t 72)), og 74 73 true (.fieldA 3 (.t 3)), og 75 73 true (.load none (.t 74)), og 76 73 true (.call false n_ingotref14_Signs [(.t 75)]), og 77 73 true (.fieldA 3 (.t 2)), og 78 73 true (.load none (.t 77)), og 79 73 true (.bin .gtr (.t 76) (.t 78)), og 80 64 false (.pick (.t 73) (.t 79) (.c (.bool false))), oo 81 (.pick (.t 64) (.c (.bool true)) (.t 80))]
def r_ingotref14_Check_7_n : List (Nat × Nat) := [(14, 17), (15, 17), (16, 17), (14, 18), (15, 18), (16, 18)]
def r_ingotref14_Check_7 : ICode := .region r_ingotref14_Check_7_o r_ingotref14_Check_7_n [2, 3, 81]
@[go_sem] theorem r_ingotref14_Check_7_u : go X (.c r_ingotref14_Check_7 :: K) s = goRU X [] r_ingotref14_Check_7_n r_ingotref14_Check_7_o [2, 3, 81] K s := go_regionU' _ _ _ _
@[go_sem] def r_ingotref14_Check_8_o : Ops := [
oo 4 (.asg (ci 4))]
def r_ingotref14_Check_8 := rg r_ingotref14_Check_8_o [4]
@[go_sem] theorem r_ingotref14_Check_8_u : Gr X K s r_ingotref14_Check_8 r_ingotref14_Check_8_o [4] := go_region _ _
@[go_sem] def r_ingotref14_Check_9_o : Ops := [
oo 82 (.fieldA 4 (.t 3)), oo 83 (.load none (.t 82)), oo 84 (.len false (.t 83)), oo 5 (.asg (.t 84))]
def r_ingotref14_Check_9 := rg r_ingotref14_Check_9_o [2, 3, 5]
@[go_sem] theorem r_ingotref14_Check_9_u : Gr X K s r_ingotref14_Check_9 r_ingotref14_Check_9_o [2, 3, 5] := go_region _ _
@[go_sem] def r_ingotref14_Check_10_o : Ops := [
oo 85 (.fieldA 0 (.t 2)), oo 86 (.load none (.t 85))]
def r_ingotref14_Check_10 := rg r_ingotref14_Check_10_o [2, 3, 5, 86]
@[go_sem] theorem r_ingotref14_Check_10_u : Gr X K s r_ingotref14_Check_10 r_ingotref14_Check_10_o [2, 3, 5, 86] := go_region _ _
@[go_sem] def r_ingotref14_Check_11_o : Ops := [
oo 88 (.bin .eql (.t 86) (ci 10)), oo 87 (.asg (.t 88))]
def r_ingotref14_Check_11 := rg r_ingotref14_Check_11_o [2, 3, 5, 86, 87]
@[go_sem] theorem r_ingotref14_Check_11_u : Gr X K s r_ingotref14_Check_11 r_ingotref14_Check_11_o [2, 3, 5, 86, 87] := go_region _ _
@[go_sem] def r_ingotref14_Check_12_o : Ops := [
oo 89 (.mv (.t 5)), oo 90 (.bin .gtr (.t 89) (ci 16384))]
def r_ingotref14_Check_12 := rg r_ingotref14_Check_12_o [2, 3, 5, 90]
@[go_sem] theorem r_ingotref14_Check_12_u : Gr X K s r_ingotref14_Check_12 r_ingotref14_Check_12_o [2, 3, 5, 90] := go_region _ _
@[go_sem] def r_ingotref14_Check_13_o : Ops := [
oo 4 (.asg (ci 4))]
def r_ingotref14_Check_13 := rg r_ingotref14_Check_13_o [4]
@[go_sem] theorem r_ingotref14_Check_13_u : Gr X K s r_ingotref14_Check_13 r_ingotref14_Check_13_o [4] := go_region _ _
@[go_sem] def r_ingotref14_Check_14_o : Ops := [
oo 92 (.bin .eql (.t 86) (ci 11)), oo 91 (.asg (.t 92))]
def r_ingotref14_Check_14 := rg r_ingotref14_Check_14_o [2, 3, 5, 86, 91]
@[go_sem] theorem r_ingotref14_Check_14_u : Gr X K s r_ingotref14_Check_14 r_ingotref14_Check_14_o [2, 3, 5, 86, 91] := go_region _ _
@[go_sem] def r_ingotref14_Check_15_o : Ops := [
oo 93 (.mv (.t 5)), oo 94 (.bin .rem (.t 93) (ci 2)), oo 95 (.bin .neq (.t 94) (ci 0))]
def r_ingotref14_Check_15 := rg r_ingotref14_Check_15_o [2, 3, 5, 95]
@[go_sem] theorem r_ingotref14_Check_15_u : Gr X K s r_ingotref14_Check_15 r_ingotref14_Check_15_o [2, 3, 5, 95] := go_region _ _
@[go_sem] def r_ingotref14_Check_16_o : Ops := [
oo 4 (.asg (ci 1))]
def r_ingotref14_Check_16 := rg r_ingotref14_Check_16_o [4]
@[go_sem] theorem r_ingotref14_Check_16_u : Gr X K s r_ingotref14_Check_16 r_ingotref14_Check_16_o [4] := go_region _ _
@[go_sem] def r_ingotref14_Check_17_o : Ops := [
oo 96 (.mv (.t 5)), oo 97 (.bin .gtr (.t 96) (ci 32768))]
def r_ingotref14_Check_17 := rg r_ingotref14_Check_17_o [2, 3, 5, 97]
@[go_sem] theorem r_ingotref14_Check_17_u : Gr X K s r_ingotref14_Check_17 r_ingotref14_Check_17_o [2, 3, 5, 97] := go_region _ _
@[go_sem] def r_ingotref14_Check_18_o : Ops := [
oo 4 (.asg (ci 4))]
def r_ingotref14_Check_18 := rg r_ingotref14_Check_18_o [4]
@[go_sem] theorem r_ingotref14_Check_18_u : Gr X K s r_ingotref14_Check_18 r_ingotref14_Check_18_o [4] := go_region _ _
@[go_sem] def r_ingotref14_Check_19_o : Ops := [
oo 99 (.bin .eql (.t 86) (ci 12)), oo 98 (.asg (.t 99))]
def r_ingotref14_Check_19 := rg r_ingotref14_Check_19_o [2, 3, 5, 86, 98]
@[go_sem] theorem r_ingotref14_Check_19_u : Gr X K s r_ingotref14_Check_19 r_ingotref14_Check_19_o [2, 3, 5, 86, 98] := go_region _ _
@[go_sem] def r_ingotref14_Check_20_o : Ops := [
oo 100 (.mv (.t 5)), oo 101 (.fieldA 2 (.t 2)), oo 102 (.load none (.t 101)), oo 103 (.len false (.t 102)), oo 104 (.bin .neq (.t 100) (.t 103))]
def r_ingotref14_Check_20 := rg r_ingotref14_Check_20_o [2, 3, 5, 104]
@[go_sem] theorem r_ingotref14_Check_20_u : Gr X K s r_ingotref14_Check_20 r_ingotref14_Check_20_o [2, 3, 5, 104] := go_region _ _
@[go_sem] def r_ingotref14_Check_21_o : Ops := [
oo 4 (.asg (ci 1))]
def r_ingotref14_Check_21 := rg r_ingotref14_Check_21_o [4]
@[go_sem] theorem r_ingotref14_Check_21_u : Gr X K s r_ingotref14_Check_21 r_ingotref14_Check_21_o [4] := go_region _ _
@[go_sem] def r_ingotref14_Check_22_o : Ops := [
oo 106 (.bin .eql (.t 86) (ci 13)), oo 105 (.asg (.t 106))]
def r_ingotref14_Check_22 := rg r_ingotref14_Check_22_o [2, 3, 5, 105]
@[go_sem] theorem r_ingotref14_Check_22_u : Gr X K s r_ingotref14_Check_22 r_ingotref14_Check_22_o [2, 3, 5, 105] := go_region _ _
@[go_sem] def r_ingotref14_Check_23_o : Ops := [
oo 107 (.mv (.t 5)), oo 108 (.bin .neq (.t 107) (ci 1))]
def r_ingotref14_Check_23 := rg r_ingotref14_Check_23_o [2, 3, 5, 108]
@[go_sem] theorem r_ingotref14_Check_23_u : Gr X K s r_ingotref14_Check_23 r_ingotref14_Check_23_o [2, 3, 5, 108] := go_region _ _
@[go_sem] def r_ingotref14_Check_24_o : Ops := [
oo 4 (.asg (ci 1))]
def r_ingotref14_Check_24 := rg r_ingotref14_Check_24_o [4]
@[go_sem] theorem r_ingotref14_Check_24_u : Gr X K s r_ingotref14_Check_24 r_ingotref14_Check_24_o [4] := go_region _ _
@[go_sem] def r_ingotref14_Check_25_o : Ops := [
oo 6 (.asg (ci 0))]
def r_ingotref14_Check_25 := rg r_ingotref14_Check_25_o [2, 3, 5, 6]
@[go_sem] theorem r_ingotref14_Check_25_u : Gr X K s r_ingotref14_Check_25 r_ingotref14_Check_25_o [2, 3, 5, 6] := go_region _ _
@[go_sem] def r_ingotref14_Check_26_o : Ops := [
oo 109 (.mv (.t 6)), oo 110 (.mv (.t 5)), oo 111 (.bin .lss (.t 109) (.t 110))]
def r_ingotref14_Check_26 := rg r_ingotref14_Check_26_o [2, 3, 5, 6, 111]
@[go_sem] theorem r_ingotref14_Check_26_u : Gr X K s r_ingotref14_Check_26 r_ingotref14_Check_26_o [2, 3, 5, 6, 111] := go_region _ _
@[go_sem] def r_ingotref14_Check_27_o : Ops := [
oo 114 (.fieldA 0 (.t 2)), oo 115 (.load none (.t 114)), oo 116 (.bin .eql (.t 115) (ci 11)), oo 117 (.mv (.t 116)), og 118 117 true (.mv (.t 6)), og 119 117 true (.bin .rem (.t 118) (ci 2)), og 120 117 true (.bin .eql (.t 119) (ci 0)), oo 121 (.pick (.t 117) (.t 120) (.c (.bool false))), oo 122 (.mv (.t 121)), og 123 122 true (.fieldA 4 (.t 3)), og 124 122 true (.load none (.t 123)), og 125 122 true (.mv (.t 6)), og 126 122 true (.idxA 5 (.t 124) (.t 125)), og 127 122 true (.fieldA 0 (.t 126)), og 128 122 true (.load none (.t 127)), oo 129 (.pick (.t 122) (.t 128) (.c (.bool false)))]
def r_ingotref14_Check_27 := rg r_ingotref14_Check_27_o [2, 3, 5, 6, 129]
@[go_sem] theorem r_ingotref14_Check_27_u : Gr X K s r_ingotref14_Check_27 r_ingotref14_Check_27_o [2, 3, 5, 6, 129] := go_region _ _
@[go_sem] def r_ingotref14_Check_28_o : Ops := [
oo 4 (.asg (ci 1))]
def r_ingotref14_Check_28 := rg r_ingotref14_Check_28_o [4]
@[go_sem] theorem r_ingotref14_Check_28_u : Gr X K s r_ingotref14_Check_28 r_ingotref14_Check_28_o [4] := go_region _ _
@[go_sem] def r_ingotref14_Check_29_o : Ops := [
oo 130 (.load (some 6) (.t 2)), oo 131 (.load (some 5) (.t 3)), oo 132 (.mv (.t 6)), oo 133 (.call false n_ingotref14_Kid [(.t 130), (.t 131), (.t 132)]), oo 134 (.fieldA 4 (.t 3)), oo 135 (.load none (.t 134)), oo 136 (.mv (.t 6)), oo 137 (.idxA 5 (.t 135) (.t 136)), oo 138 (.load (some 5) (.t 137)), oo 139 (.call false n_ingotref14_Check [(.t 133), (.t 138)]), oo 7 (.asg (.t 139))]
def r_ingotref14_Check_29_n : List (Nat × Nat) := [(0, 1), (0, 2), (1, 2), (0, 4), (1, 4), (2, 4), (3, 4), (0, 5), (1, 5), (2, 5), (3, 5), (0, 6), (1, 6), (2, 6), (3, 6), (4, 6), (5, 6), (0, 7), (1, 7), (2, 7), (3, 7), (0, 8), (1, 8), (2, 8), (3, 8)]
def r_ingotref14_Check_29 : ICode := .region r_ingotref14_Check_29_o r_ingotref14_Check_29_n [2, 3, 5, 6, 7]
@[go_sem] theorem r_ingotref14_Check_29_u : go X (.c r_ingotref14_Check_29 :: K) s = goRU X [] r_ingotref14_Check_29_n r_ingotref14_Check_29_o [2, 3, 5, 6, 7] K s := go_regionU' _ _ _ _
@[go_sem] def r_ingotref14_Check_30_o : Ops := [
oo 140 (.mv (.t 7)), oo 141 (.bin .neq (.t 140) (ci 0))]
def r_ingotref14_Check_30 := rg r_ingotref14_Check_30_o [2, 3, 5, 6, 7, 141]
@[go_sem] theorem r_ingotref14_Check_30_u : Gr X K s r_ingotref14_Check_30 r_ingotref14_Check_30_o [2, 3, 5, 6, 7, 141] := go_region _ _
@[go_sem] def r_ingotref14_Check_31_o : Ops := [
oo 142 (.mv (.t 7)), oo 4 (.asg (.t 142))]
def r_ingotref14_Check_31 := rg r_ingotref14_Check_31_o [4]
@[go_sem] theorem r_ingotref14_Check_31_u : Gr X K s r_ingotref14_Check_31 r_ingotref14_Check_31_o [4] := go_region _ _
@[go_sem] def r_ingotref14_Check_32_o : Ops := [
oo 112 (.mv (.t 6)), oo 113 (.bin .add (.t 112) (ci 1)), oo 6 (.asg (.t 113))]
def r_ingotref14_Check_32 := rg r_ingotref14_Check_32_o [2, 3, 5, 6]
@[go_sem] theorem r_ingotref14_Check_32_u : Gr X K s r_ingotref14_Check_32 r_ingotref14_Check_32_o [2, 3, 5, 6] := go_region _ _
def b_ingotref14_Check_33 : ICode := (.seq (.seq r_ingotref14_Check_26 (.cond (.t 111) .skip (.exit 1))) (.seq (.block 2 (.seq (.seq r_ingotref14_Check_27 (.cond (.t 129) (.seq r_ingotref14_Check_28 .ret) .skip)) (.seq r_ingotref14_Check_29 (.seq r_ingotref14_Check_30 (.cond (.t 141) (.seq r_ingotref14_Check_31 .ret) .skip))))) r_ingotref14_Check_32))
@[go_sem] theorem b_ingotref14_Check_33_u : Gn X K s b_ingotref14_Check_33 (.seq (.seq r_ingotref14_Check_26 (.cond (.t 111) .skip (.exit 1))) (.seq (.block 2 (.seq (.seq r_ingotref14_Check_27 (.cond (.t 129) (.seq r_ingotref14_Check_28 .ret) .skip)) (.seq r_ingotref14_Check_29 (.seq r_ingotref14_Check_30 (.cond (.t 141) (.seq r_ingotref14_Check_31 .ret) .skip))))) r_ingotref14_Check_32)) := rfl
@[go_sem] def r_ingotref14_Check_34_o : Ops := [
oo 4 (.asg (ci 0))]
def r_ingotref14_Check_34 := rg r_ingotref14_Check_34_o [4]
@[go_sem] theorem r_ingotref14_Check_34_u : Gr X K s r_ingotref14_Check_34 r_ingotref14_Check_34_o [4] := go_region _ _
def c_ingotref14_Check : ICode := (.seq r_ingotref14_Check_0 (.seq r_ingotref14_Check_1 (.cond (.t 9) (.seq (.seq r_ingotref14_Check_2 (.cond (.t 29) (.seq r_ingotref14_Check_3 .ret) .skip)) (.seq r_ingotref14_Check_4 .ret)) (.seq r_ingotref14_Check_5 (.cond (.t 59) (.seq r_ingotref14_Check_6 .ret) (.seq r_ingotref14_Check_7 (.cond (.t 81) (.seq r_ingotref14_Check_8 .ret) (.seq r_ingotref14_Check_9 (.seq (.seq r_ingotref14_Check_10 (.block 0 (.seq r_ingotref14_Check_11 (.cond (.t 87) (.seq r_ingotref14_Check_12 (.cond (.t 90) (.seq r_ingotref14_Check_13 .ret) .skip)) (.seq r_ingotref14_Check_14 (.cond (.t 91) (.seq (.seq r_ingotref14_Check_15 (.cond (.t 95) (.seq r_ingotref14_Check_16 .ret) .skip)) (.seq r_ingotref14_Check_17 (.cond (.t 97) (.seq r_ingotref14_Check_18 .ret) .skip))) (.seq r_ingotref14_Check_19 (.cond (.t 98) (.seq r_ingotref14_Check_20 (.cond (.t 104) (.seq r_ingotref14_Check_21 .ret) .skip)) (.seq r_ingotref14_Check_22 (.cond (.t 105) (.seq r_ingotref14_Check_23 (.cond (.t 108) (.seq r_ingotref14_Check_24 .ret) .skip)) .skip)))))))))) (.seq (.seq r_ingotref14_Check_25 (.block 1 (.loop b_ingotref14_Check_33))) (.seq r_ingotref14_Check_34 .ret)))))))))))
def i_ingotref14_Check : IFunc := ⟨2, [.t 4], c_ingotref14_Check⟩
def a_ingotref14_Check : Advice := ⟨[], [(33, [4]), (27, [2, 3, 5, 6]), (32, [4]), (31, [2, 3, 5, 6, 7, 141]), (30, [2, 3, 5, 6, 7]), (29, [4]), (28, [2, 3, 5, 6, 129]), (26, [2, 3, 5, 6, 111]), (25, [2, 3, 5, 6]), (13, [4]), (12, [2, 3, 5, 90]), (18, [4]), (17, [2, 3, 5, 97]), (16, [4]), (15, [2, 3, 5, 95]), (21, [4]), (20, [2, 3, 5, 104]), (24, [4]), (23, [2, 3, 5, 108]), (22, [2, 3, 5, 105]), (19, [2, 3, 5, 86, 98]), (14, [2, 3, 5, 86, 91]), (11, [2, 3, 5, 86, 87]), (10, [2, 3, 5, 86]), (9, [2, 3, 5]), (8, [4]), (7, [2, 3, 81]), (6, [4]), (5, [2, 3, 59]), (4, [4]), (3, [4]), (2, [29]), (1, [2, 3, 9]), (0, [2, 3])], [], [], []⟩
/-! ingot/ingotlaw14.few -/
@[go_sem] def r_ingotlaw14_few_0_o : Ops := [
oo 2 (.box 5 (.t 0)), oo 4 (.asg (ci 0))]
def r_ingotlaw14_few_0 := rg r_ingotlaw14_few_0_o [1, 2]
@[go_sem] theorem r_ingotlaw14_few_0_u : Gr X K s r_ingotlaw14_few_0 r_ingotlaw14_few_0_o [1, 2] := go_region _ _
@[go_sem] def r_ingotlaw14_few_1_o : Ops := [
oo 7 (.mv (.t 1)), oo 8 (.bin .gtr (.t 7) (ci 20)), oo 9 (.mv (.t 8)), og 10 9 false (.fieldA 4 (.t 2)), og 11 9 false (.load none (.t 10)), og 12 9 false (.len false (.t 11)), og 13 9 false (.bin .gtr (.t 12) (ci 400)), oo 14 (.pick (.t 9) (.c (.bool true)) (.t 13)), oo 15 (.mv (.t 14)), og 16 15 false (.fieldA 3 (.t 2)), og 17 15 false (.load none (.t 16)), og 18 15 false (.len false (.t 17)), og 19 15 false (.bin .gtr (.t 18) (ci 5000)), oo 20 (.pick (.t 15) (.c (.bool true)) (.t 19))]
def r_ingotlaw14_few_1 := rg r_ingotlaw14_few_1_o [1, 2, 20]
@[go_sem] theorem r_ingotlaw14_few_1_u : Gr X K s r_ingotlaw14_few_1 r_ingotlaw14_few_1_o [1, 2, 20] := go_region _ _
@[go_sem] def r_ingotlaw14_few_2_o : Ops := [
oo 4 (.asg (ci 1000))]
def r_ingotlaw14_few_2 := rg r_ingotlaw14_few_2_o [4]
@[go_sem] theorem r_ingotlaw14_few_2_u : Gr X K s r_ingotlaw14_few_2 r_ingotlaw14_few_2_o [4] := go_region _ _
@[go_sem] def r_ingotlaw14_few_3_o : Ops := [
oo 21 (.fieldA 3 (.t 2)), oo 22 (.load none (.t 21)), oo 23 (.len false (.t 22)), oo 24 (.bin .quo (.t 23) (ci 50)), oo 25 (.bin .add (ci 1) (.t 24)), oo 5 (.asg (.t 25))]
def r_ingotlaw14_few_3 := rg r_ingotlaw14_few_3_o [1, 2, 5]
@[go_sem] theorem r_ingotlaw14_few_3_u : Gr X K s r_ingotlaw14_few_3 r_ingotlaw14_few_3_o [1, 2, 5] := go_region _ _
@[go_sem] def r_ingotlaw14_few_4_o : Ops := [
oo 6 (.asg (ci 0))]
def r_ingotlaw14_few_4 := rg r_ingotlaw14_few_4_o [1, 2, 5, 6]
@[go_sem] theorem r_ingotlaw14_few_4_u : Gr X K s r_ingotlaw14_few_4 r_ingotlaw14_few_4_o [1, 2, 5, 6] := go_region _ _
@[go_sem] def r_ingotlaw14_few_5_o : Ops := [
oo 26 (.mv (.t 6)), oo 27 (.fieldA 4 (.t 2)), oo 28 (.load none (.t 27)), oo 29 (.len false (.t 28)), oo 30 (.bin .lss (.t 26) (.t 29))]
def r_ingotlaw14_few_5 := rg r_ingotlaw14_few_5_o [1, 2, 5, 6, 30]
@[go_sem] theorem r_ingotlaw14_few_5_u : Gr X K s r_ingotlaw14_few_5 r_ingotlaw14_few_5_o [1, 2, 5, 6, 30] := go_region _ _
@[go_sem] def r_ingotlaw14_few_6_o : Ops := [
oo 33 (.mv (.t 5)), oo 34 (.fieldA 4 (.t 2)), oo 35 (.load none (.t 34)), oo 36 (.mv (.t 6)), oo 37 (.idxA 5 (.t 35) (.t 36)), oo 38 (.load (some 5) (.t 37)), oo 39 (.mv (.t 1)), oo 40 (.bin .add (.t 39) (ci 1)), oo 41 (.call false n_ingotlaw14_few [(.t 38), (.t 40)]), oo 42 (.bin .add (.t 33) (.t 41)), oo 5 (.asg (.t 42))]
def r_ingotlaw14_few_6 := rg r_ingotlaw14_few_6_o [1, 2, 5, 6]
@[go_sem] theorem r_ingotlaw14_few_6_u : Gr X K s r_ingotlaw14_few_6 r_ingotlaw14_few_6_o [1, 2, 5, 6] := go_region _ _
@[go_sem] def r_ingotlaw14_few_7_o : Ops := [
oo 43 (.mv (.t 5)), oo 44 (.bin .gtr (.t 43) (ci 1000))]
def r_ingotlaw14_few_7 := rg r_ingotlaw14_few_7_o [1, 2, 5, 6, 44]
@[go_sem] theorem r_ingotlaw14_few_7_u : Gr X K s r_ingotlaw14_few_7 r_ingotlaw14_few_7_o [1, 2, 5, 6, 44] := go_region _ _
@[go_sem] def r_ingotlaw14_few_8_o : Ops := [
oo 4 (.asg (ci 1000))]
def r_ingotlaw14_few_8 := rg r_ingotlaw14_few_8_o [4]
@[go_sem] theorem r_ingotlaw14_few_8_u : Gr X K s r_ingotlaw14_few_8 r_ingotlaw14_few_8_o [4] := go_region _ _
@[go_sem] def r_ingotlaw14_few_9_o : Ops := [
oo 31 (.mv (.t 6)), oo 32 (.bin .add (.t 31) (ci 1)), oo 6 (.asg (.t 32))]
def r_ingotlaw14_few_9 := rg r_ingotlaw14_few_9_o [1, 2, 5, 6]
@[go_sem] theorem r_ingotlaw14_few_9_u : Gr X K s r_ingotlaw14_few_9 r_ingotlaw14_few_9_o [1, 2, 5, 6] := go_region _ _
def b_ingotlaw14_few_10 : ICode := (.seq (.seq r_ingotlaw14_few_5 (.cond (.t 30) .skip (.exit 0))) (.seq (.block 1 (.seq r_ingotlaw14_few_6 (.seq r_ingotlaw14_few_7 (.cond (.t 44) (.seq r_ingotlaw14_few_8 .ret) .skip)))) r_ingotlaw14_few_9))
@[go_sem] theorem b_ingotlaw14_few_10_u : Gn X K s b_ingotlaw14_few_10 (.seq (.seq r_ingotlaw14_few_5 (.cond (.t 30) .skip (.exit 0))) (.seq (.block 1 (.seq r_ingotlaw14_few_6 (.seq r_ingotlaw14_few_7 (.cond (.t 44) (.seq r_ingotlaw14_few_8 .ret) .skip)))) r_ingotlaw14_few_9)) := rfl
@[go_sem] def r_ingotlaw14_few_11_o : Ops := [
oo 45 (.mv (.t 5)), oo 4 (.asg (.t 45))]
def r_ingotlaw14_few_11 := rg r_ingotlaw14_few_11_o [4]
@[go_sem] theorem r_ingotlaw14_few_11_u : Gr X K s r_ingotlaw14_few_11 r_ingotlaw14_few_11_o [4] := go_region _ _
def c_ingotlaw14_few : ICode := (.seq r_ingotlaw14_few_0 (.seq r_ingotlaw14_few_1 (.cond (.t 20) (.seq r_ingotlaw14_few_2 .ret) (.seq r_ingotlaw14_few_3 (.seq (.seq r_ingotlaw14_few_4 (.block 0 (.loop b_ingotlaw14_few_10))) (.seq r_ingotlaw14_few_11 .ret))))))
def i_ingotlaw14_few : IFunc := ⟨2, [.t 4], c_ingotlaw14_few⟩
def a_ingotlaw14_few : Advice := ⟨[], [(10, [4]), (6, [1, 2, 5, 6]), (9, [4]), (8, [1, 2, 5, 6, 44]), (7, [1, 2, 5, 6]), (5, [1, 2, 5, 6, 30]), (4, [1, 2, 5, 6]), (3, [1, 2, 5]), (2, [4]), (1, [1, 2, 20]), (0, [1, 2])], [], [], []⟩
/-! ingot/ingotlaw14.Weight -/
@[go_sem] def r_ingotlaw14_Weight_0_o : Ops := [
oo 1 (.box 5 (.t 0)), oo 2 (.asg (ci 0))]
def r_ingotlaw14_Weight_0 := rg r_ingotlaw14_Weight_0_o [1]
@[go_sem] theorem r_ingotlaw14_Weight_0_u : Gr X K s r_ingotlaw14_Weight_0 r_ingotlaw14_Weight_0_o [1] := go_region _ _
@[go_sem] def r_ingotlaw14_Weight_1_o : Ops := [
oo 3 (.load (some 5) (.t 1)), oo 4 (.call false n_ingotlaw14_few [(.t 3), (ci 1)]), oo 2 (.asg (.t 4))]
def r_ingotlaw14_Weight_1 := rg r_ingotlaw14_Weight_1_o [2]
@[go_sem] theorem r_ingotlaw14_Weight_1_u : Gr X K s r_ingotlaw14_Weight_1 r_ingotlaw14_Weight_1_o [2] := go_region _ _
def c_ingotlaw14_Weight : ICode := (.seq r_ingotlaw14_Weight_0 (.seq r_ingotlaw14_Weight_1 .ret))
def i_ingotlaw14_Weight : IFunc := ⟨1, [.t 2], c_ingotlaw14_Weight⟩
def a_ingotlaw14_Weight : Advice := ⟨[], [(1, [2]), (0, [1])], [], [], []⟩
/-! ingot/ingotlaw14.Few -/
@[go_sem] def r_ingotlaw14_Few_0_o : Ops := [
oo 1 (.box 5 (.t 0)), oo 2 (.asg (.c (.bool false)))]
def r_ingotlaw14_Few_0 := rg r_ingotlaw14_Few_0_o [1]
@[go_sem] theorem r_ingotlaw14_Few_0_u : Gr X K s r_ingotlaw14_Few_0 r_ingotlaw14_Few_0_o [1] := go_region _ _
@[go_sem] def r_ingotlaw14_Few_1_o : Ops := [
oo 3 (.load (some 5) (.t 1)), oo 4 (.call false n_ingotlaw14_Weight [(.t 3)]), oo 5 (.bin .leq (.t 4) (ci 400)), oo 2 (.asg (.t 5))]
def r_ingotlaw14_Few_1 := rg r_ingotlaw14_Few_1_o [2]
@[go_sem] theorem r_ingotlaw14_Few_1_u : Gr X K s r_ingotlaw14_Few_1 r_ingotlaw14_Few_1_o [2] := go_region _ _
def c_ingotlaw14_Few : ICode := (.seq r_ingotlaw14_Few_0 (.seq r_ingotlaw14_Few_1 .ret))
def i_ingotlaw14_Few : IFunc := ⟨1, [.t 2], c_ingotlaw14_Few⟩
def a_ingotlaw14_Few : Advice := ⟨[], [(1, [2]), (0, [1])], [], [], []⟩
/-! ingot/ingotref13.own -/
@[go_sem] def r_ingotref13_own_0_o : Ops := [
oo 1 (.box 6 (.t 0)), oo 2 (.asg (ci 0))]
def r_ingotref13_own_0 := rg r_ingotref13_own_0_o [1]
@[go_sem] theorem r_ingotref13_own_0_u : Gr X K s r_ingotref13_own_0 r_ingotref13_own_0_o [1] := go_region _ _
@[go_sem] def r_ingotref13_own_1_o : Ops := [
oo 8 (.fieldA 0 (.t 1)), oo 9 (.load none (.t 8)), oo 10 (.bin .eql (.t 9) (ci 5)), oo 11 (.mv (.t 10)), og 12 11 false (.fieldA 0 (.t 1)), og 13 11 false (.load none (.t 12)), og 14 11 false (.bin .eql (.t 13) (ci 6)), oo 15 (.pick (.t 11) (.c (.bool true)) (.t 14))]
def r_ingotref13_own_1 := rg r_ingotref13_own_1_o [1, 15]
@[go_sem] theorem r_ingotref13_own_1_u : Gr X K s r_ingotref13_own_1 r_ingotref13_own_1_o [1, 15] := go_region _ _
@[go_sem] def r_ingotref13_own_2_o : Ops := [
oo 2 (.asg (ci 5))]
def r_ingotref13_own_2 := rg r_ingotref13_own_2_o [2]
@[go_sem] theorem r_ingotref13_own_2_u : Gr X K s r_ingotref13_own_2 r_ingotref13_own_2_o [2] := go_region _ _
@[go_sem] def r_ingotref13_own_3_o : Ops := [
oo 16 (.fieldA 0 (.t 1)), oo 17 (.load none (.t 16)), oo 18 (.bin .lss (.t 17) (ci 0)), oo 19 (.mv (.t 18)), og 20 19 false (.fieldA 0 (.t 1)), og 21 19 false (.load none (.t 20)), og 22 19 false (.bin .gtr (.t 21) (ci 17)), oo 23 (.pick (.t 19) (.c (.bool true)) (.t 22))]
def r_ingotref13_own_3 := rg r_ingotref13_own_3_o [1, 23]
@[go_sem] theorem r_ingotref13_own_3_u : Gr X K s r_ingotref13_own_3 r_ingotref13_own_3_o [1, 23] := go_region _ _
@[go_sem] def r_ingotref13_own_4_o : Ops := [
oo 2 (.asg (ci 1))]
def r_ingotref13_own_4 := rg r_ingotref13_own_4_o [2]
@[go_sem] theorem r_ingotref13_own_4_u : Gr X K s r_ingotref13_own_4 r_ingotref13_own_4_o [2] := go_region _ _
@[go_sem] def r_ingotref13_own_5_o : Ops := [
oo 24 (.fieldA 2 (.t 1)), oo 25 (.load none (.t 24)), oo 26 (.len false (.t 25)), oo 3 (.asg (.t 26))]
def r_ingotref13_own_5 := rg r_ingotref13_own_5_o [1, 3]
@[go_sem] theorem r_ingotref13_own_5_u : Gr X K s r_ingotref13_own_5 r_ingotref13_own_5_o [1, 3] := go_region _ _
@[go_sem] def r_ingotref13_own_6_o : Ops := [
oo 27 (.mv (.t 3)), oo 28 (.bin .eql (.t 27) (ci 0)), oo 4 (.asg (.t 28))]
def r_ingotref13_own_6 := rg r_ingotref13_own_6_o [1, 3, 4]
@[go_sem] theorem r_ingotref13_own_6_u : Gr X K s r_ingotref13_own_6 r_ingotref13_own_6_o [1, 3, 4] := go_region _ _
@[go_sem] def r_ingotref13_own_7_o : Ops := [
oo 29 (.fieldA 0 (.t 1)), oo 30 (.load none (.t 29))]
def r_ingotref13_own_7 := rg r_ingotref13_own_7_o [1, 3, 4, 30]
@[go_sem] theorem r_ingotref13_own_7_u : Gr X K s r_ingotref13_own_7 r_ingotref13_own_7_o [1, 3, 4, 30] := go_region _ _
@[go_sem] def r_ingotref13_own_8_o : Ops := [
oo 32 (.bin .eql (.t 30) (ci 10)), oo 31 (.asg (.t 32))]
def r_ingotref13_own_8 := rg r_ingotref13_own_8_o [1, 3, 4, 30, 31]
@[go_sem] theorem r_ingotref13_own_8_u : Gr X K s r_ingotref13_own_8 r_ingotref13_own_8_o [1, 3, 4, 30, 31] := go_region _ _
@[go_sem] def r_ingotref13_own_9_o : Ops := [
oo 33 (.mv (.t 3)), oo 34 (.bin .eql (.t 33) (ci 1)), oo 4 (.asg (.t 34))]
def r_ingotref13_own_9 := rg r_ingotref13_own_9_o [1, 4]
@[go_sem] theorem r_ingotref13_own_9_u : Gr X K s r_ingotref13_own_9 r_ingotref13_own_9_o [1, 4] := go_region _ _
@[go_sem] def r_ingotref13_own_10_o : Ops := [
oo 36 (.bin .eql (.t 30) (ci 11)), oo 35 (.asg (.t 36))]
def r_ingotref13_own_10 := rg r_ingotref13_own_10_o [1, 3, 4, 30, 35]
@[go_sem] theorem r_ingotref13_own_10_u : Gr X K s r_ingotref13_own_10 r_ingotref13_own_10_o [1, 3, 4, 30, 35] := go_region _ _
@[go_sem] def r_ingotref13_own_11_o : Ops := [
oo 37 (.mv (.t 3)), oo 38 (.bin .eql (.t 37) (ci 2)), oo 4 (.asg (.t 38))]
def r_ingotref13_own_11 := rg r_ingotref13_own_11_o [1, 4]
@[go_sem] theorem r_ingotref13_own_11_u : Gr X K s r_ingotref13_own_11 r_ingotref13_own_11_o [1, 4] := go_region _ _
@[go_sem] def r_ingotref13_own_12_o : Ops := [
oo 40 (.bin .eql (.t 30) (ci 12)), oo 39 (.asg (.t 40))]
def r_ingotref13_own_12 := rg r_ingotref13_own_12_o [1, 3, 4, 30, 39]
@[go_sem] theorem r_ingotref13_own_12_u : Gr X K s r_ingotref13_own_12 r_ingotref13_own_12_o [1, 3, 4, 30, 39] := go_region _ _
@[go_sem] def r_ingotref13_own_13_o : Ops := [
oo 41 (.mv (.t 3)), oo 42 (.fieldA 1 (.t 1)), oo 43 (.load none (.t 42)), oo 44 (.len false (.t 43)), oo 45 (.bin .eql (.t 41) (.t 44)), oo 4 (.asg (.t 45))]
def r_ingotref13_own_13 := rg r_ingotref13_own_13_o [1, 4]
@[go_sem] theorem r_ingotref13_own_13_u : Gr X K s r_ingotref13_own_13 r_ingotref13_own_13_o [1, 4] := go_region _ _
@[go_sem] def r_ingotref13_own_14_o : Ops := [
oo 47 (.bin .eql (.t 30) (ci 13)), oo 46 (.asg (.t 47))]
def r_ingotref13_own_14 := rg r_ingotref13_own_14_o [1, 3, 4, 46]
@[go_sem] theorem r_ingotref13_own_14_u : Gr X K s r_ingotref13_own_14 r_ingotref13_own_14_o [1, 3, 4, 46] := go_region _ _
@[go_sem] def r_ingotref13_own_15_o : Ops := [
oo 48 (.mv (.t 3)), oo 49 (.bin .geq (.t 48) (ci 1)), oo 50 (.mv (.t 49)), og 51 50 true (.mv (.t 3)), og 52 50 true (.bin .leq (.t 51) (ci 255)), oo 53 (.pick (.t 50) (.t 52) (.c (.bool false))), oo 4 (.asg (.t 53))]
def r_ingotref13_own_15 := rg r_ingotref13_own_15_o [1, 4]
@[go_sem] theorem r_ingotref13_own_15_u : Gr X K s r_ingotref13_own_15 r_ingotref13_own_15_o [1, 4] := go_region _ _
@[go_sem] def r_ingotref13_own_16_o : Ops := [
oo 54 (.mv (.t 4)), oo 55 (.un .not (.t 54)), oo 56 (.mv (.t 55)), og 57 56 false (.fieldA 0 (.t 1)), og 58 56 false (.load none (.t 57)), og 59 56 false (.bin .neq (.t 58) (ci 12)), og 60 56 false (.mv (.t 59)), og 61 60 true (.fieldA 1 (.t 1)), og 62 60 true (.load none (.t 61)), og 63 60 true (.len false (.t 62)), og 64 60 true (.bin .gtr (.t 63) (ci 0)), og 65 56 false (.pick (.t 60) (.t 64) (.c (.bool false))), oo 66 (.pick (.t 56) (.c (.bool true)) (.t 65))]
def r_ingotref13_own_16 := rg r_ingotref13_own_16_o [1, 66]
@[go_sem] theorem r_ingotref13_own_16_u : Gr X K s r_ingotref13_own_16 r_ingotref13_own_16_o [1, 66] := go_region _ _
@[go_sem] def r_ingotref13_own_17_o : Ops := [
oo 2 (.asg (ci 1))]
def r_ingotref13_own_17 := rg r_ingotref13_own_17_o [2]
@[go_sem] theorem r_ingotref13_own_17_u : Gr X K s r_ingotref13_own_17 r_ingotref13_own_17_o [2] := go_region _ _
@[go_sem] def r_ingotref13_own_18_o : Ops := [
oo 5 (.asg (ci 0))]
def r_ingotref13_own_18 := rg r_ingotref13_own_18_o [1, 5]
@[go_sem] theorem r_ingotref13_own_18_u : Gr X K s r_ingotref13_own_18 r_ingotref13_own_18_o [1, 5] := go_region _ _
@[go_sem] def r_ingotref13_own_19_o : Ops := [
oo 67 (.mv (.t 5)), oo 68 (.fieldA 1 (.t 1)), oo 69 (.load none (.t 68)), oo 70 (.len false (.t 69)), oo 71 (.bin .lss (.t 67) (.t 70))]
def r_ingotref13_own_19 := rg r_ingotref13_own_19_o [1, 5, 71]
@[go_sem] theorem r_ingotref13_own_19_u : Gr X K s r_ingotref13_own_19 r_ingotref13_own_19_o [1, 5, 71] := go_region _ _
@[go_sem] def r_ingotref13_own_20_o : Ops := [
oo 74 (.fieldA 1 (.t 1)), oo 75 (.load none (.t 74)), oo 76 (.mv (.t 5)), oo 77 (.idxA 1 (.t 75) (.t 76)), oo 78 (.load none (.t 77)), oo 79 (.bin .eql (.t 78) (.c (.str []))), oo 80 (.mv (.t 79)), og 81 80 false (.fieldA 1 (.t 1)), og 82 80 false (.load none (.t 81)), og 83 80 false (.mv (.t 5)), og 84 80 false (.idxA 1 (.t 82) (.t 83)), og 85 80 false (.load none (.t 84)), og 86 80 false (.len true (.t 85)), og 87 80 false (.bin .gtr (.t 86) (ci 100)), oo 88 (.pick (.t 80) (.c (.bool true)) (.t 87))]
def r_ingotref13_own_20 := rg r_ingotref13_own_20_o [1, 5, 88]
@[go_sem] theorem r_ingotref13_own_20_u : Gr X K s r_ingotref13_own_20 r_ingotref13_own_20_o [1, 5, 88] := go_region _ _
@[go_sem] def r_ingotref13_own_21_o : Ops := [
oo 2 (.asg (ci 1))]
def r_ingotref13_own_21 := rg r_ingotref13_own_21_o [2]
@[go_sem] theorem r_ingotref13_own_21_u : Gr X K s r_ingotref13_own_21 r_ingotref13_own_21_o [2] := go_region _ _
@[go_sem] def r_ingotref13_own_22_o : Ops := [
oo 6 (.asg (ci 0))]
def r_ingotref13_own_22 := rg r_ingotref13_own_22_o [1, 5, 6]
@[go_sem] theorem r_ingotref13_own_22_u : Gr X K s r_ingotref13_own_22 r_ingotref13_own_22_o [1, 5, 6] := go_region _ _
@[go_sem] def r_ingotref13_own_23_o : Ops := [
oo 89 (.mv (.t 6)), oo 90 (.mv (.t 5)), oo 91 (.bin .lss (.t 89) (.t 90))]
def r_ingotref13_own_23 := rg r_ingotref13_own_23_o [1, 5, 6, 91]
@[go_sem] theorem r_ingotref13_own_23_u : Gr X K s r_ingotref13_own_23 r_ingotref13_own_23_o [1, 5, 6, 91] := go_region _ _
@[go_sem] def r_ingotref13_own_24_o : Ops := [
oo 94 (.fieldA 1 (.t 1)), oo 95 (.load none (.t 94)), oo 96 (.mv (.t 6)), oo 97 (.idxA 1 (.t 95) (.t 96)), oo 98 (.load none (.t 97)), oo 99 (.fieldA 1 (.t 1)), oo 100 (.load none (.t 99)), oo 101 (.mv (.t 5)), oo 102 (.idxA 1 (.t 100) (.t 101)), oo 103 (.load none (.t 102)), oo 104 (.bin .eql (.t 98) (.t 103))]
def r_ingotref13_own_24_n : List (Nat × Nat) := [(0, 2), (1, 2), (0, 5), (1, 5), (2, 5), (3, 5), (4, 5), (0, 6), (1, 6), (2, 6), (3, 6), (4, 6), (0, 7), (1, 7), (2, 7), (3, 7), (4, 7), (5, 7), (6, 7), (0, 8), (1, 8), (2, 8), (3, 8), (4, 8), (0, 9), (1, 9), (2, 9), (3, 9), (4, 9)]
def r_ingotref13_own_24 : ICode := .region r_ingotref13_own_24_o r_ingotref13_own_24_n [1, 5, 6, 104]
@[go_sem] theorem r_ingotref13_own_24_u : go X (.c r_ingotref13_own_24 :: K) s = goRU X [] r_ingotref13_own_24_n r_ingotref13_own_24_o [1, 5, 6, 104] K s := go_regionU' _ _ _ _
@[go_sem] def r_ingotref13_own_25_o : Ops := [
oo 2 (.asg (ci 1))]
def r_ingotref13_own_25 := rg r_ingotref13_own_25_o [2]
@[go_sem] theorem r_ingotref13_own_25_u : Gr X K s r_ingotref13_own_25 r_ingotref13_own_25_o [2] := go_region _ _
@[go_sem] def r_ingotref13_own_26_o : Ops := [
oo 92 (.mv (.t 6)), oo 93 (.bin .add (.t 92) (ci 1)), oo 6 (.asg (.t 93))]
def r_ingotref13_own_26 := rg r_ingotref13_own_26_o [1, 5, 6]
@[go_sem] theorem r_ingotref13_own_26_u : Gr X K s r_ingotref13_own_26 r_ingotref13_own_26_o [1, 5, 6] := go_region _ _
def b_ingotref13_own_27 : ICode := (.seq (.seq r_ingotref13_own_23 (.cond (.t 91) .skip (.exit 3))) (.seq (.block 4 (.seq r_ingotref13_own_24 (.cond (.t 104) (.seq r_ingotref13_own_25 .ret) .skip))) r_ingotref13_own_26))
@[go_sem] theorem b_ingotref13_own_27_u : Gn X K s b_ingotref13_own_27 (.seq (.seq r_ingotref13_own_23 (.cond (.t 91) .skip (.exit 3))) (.seq (.block 4 (.seq r_ingotref13_own_24 (.cond (.t 104) (.seq r_ingotref13_own_25 .ret) .skip))) r_ingotref13_own_26)) := rfl
@[go_sem] def r_ingotref13_own_28_o : Ops := [
oo 72 (.mv (.t 5)), oo 73 (.bin .add (.t 72) (ci 1)), oo 5 (.asg (.t 73))]
def r_ingotref13_own_28 := rg r_ingotref13_own_28_o [1, 5]
@[go_sem] theorem r_ingotref13_own_28_u : Gr X K s r_ingotref13_own_28 r_ingotref13_own_28_o [1, 5] := go_region _ _
def b_ingotref13_own_29 : ICode := (.seq (.seq r_ingotref13_own_19 (.cond (.t 71) .skip (.exit 1))) (.seq (.block 2 (.seq (.seq r_ingotref13_own_20 (.cond (.t 88) (.seq r_ingotref13_own_21 .ret) .skip)) (.seq r_ingotref13_own_22 (.block 3 (.loop b_ingotref13_own_27))))) r_ingotref13_own_28))
@[go_sem] theorem b_ingotref13_own_29_u : Gn X K s b_ingotref13_own_29 (.seq (.seq r_ingotref13_own_19 (.cond (.t 71) .skip (.exit 1))) (.seq (.block 2 (.seq (.seq r_ingotref13_own_20 (.cond (.t 88) (.seq r_ingotref13_own_21 .ret) .skip)) (.seq r_ingotref13_own_22 (.block 3 (.loop b_ingotref13_own_27))))) r_ingotref13_own_28)) := rfl
@[go_sem] def r_ingotref13_own_30_o : Ops := [
oo 105 (.fieldA 0 (.t 1)), oo 106 (.load none (.t 105)), oo 107 (.bin .eql (.t 106) (ci 16)), oo 108 (.mv (.t 107)), og 109 108 false (.fieldA 0 (.t 1)), og 110 108 false (.load none (.t 109)), og 111 108 false (.bin .eql (.t 110) (ci 17)), oo 112 (.pick (.t 108) (.c (.bool true)) (.t 111)), oo 7 (.asg (.t 112))]
def r_ingotref13_own_30 := rg r_ingotref13_own_30_o [1, 7]
@[go_sem] theorem r_ingotref13_own_30_u : Gr X K s r_ingotref13_own_30 r_ingotref13_own_30_o [1, 7] := go_region _ _
@[go_sem] def r_ingotref13_own_31_o : Ops := [
oo 113 (.mv (.t 7)), oo 114 (.mv (.t 113)), og 115 114 true (.fieldA 3 (.t 1)), og 116 114 true (.load none (.t 115)), og 117 114 true (.bin .lss (.t 116) (ci 1)), og 118 114 true (.mv (.t 117)), og 119 118 false (.fieldA 3 (.t 1)), og 120 118 false (.load none (.t 119)), og 121 118 false (.bin .gtr (.t 120) (ci 4096)), og 122 114 true (.pick (.t 118) (.c (.bool true)) (.t 121)), oo 123 (.pick (.t 114) (.t 122) (.c (.bool false))), oo 124 (.mv (.t 123)), og 125 124 false (.mv (.t 7)), og 126 124 false (.un .not (.t 125)), og 127 124 false (.mv (.t 126)), og 128 127 true (.fieldA 3 (.t 1)), og 129 127 true (.load none (.t 128)), og 130 127 true (.bin .neq (.t 129) (ci 0)), og 131 124 false (.pick (.t 127) (.t 130) (.c (.bool false))), oo 132 (.pick (.t 124) (.c (.bool true)) (.t 131))]
def r_ingotref13_own_31 := rg r_ingotref13_own_31_o [1, 132]
@[go_sem] theorem r_ingotref13_own_31_u : Gr X K s r_ingotref13_own_31 r_ingotref13_own_31_o [1, 132] := go_region _ _
@[go_sem] def r_ingotref13_own_32_o : Ops := [
oo 2 (.asg (ci 1))]
def r_ingotref13_own_32 := rg r_ingotref13_own_32_o [2]
@[go_sem] theorem r_ingotref13_own_32_u : Gr X K s r_ingotref13_own_32 r_ingotref13_own_32_o [2] := go_region _ _
@[go_sem] def r_ingotref13_own_33_o : Ops := [
oo 133 (.fieldA 0 (.t 1)), oo 134 (.load none (.t 133)), oo 135 (.bin .eql (.t 134) (ci 14))]
def r_ingotref13_own_33 := rg r_ingotref13_own_33_o [1, 135]
@[go_sem] theorem r_ingotref13_own_33_u : Gr X K s r_ingotref13_own_33 r_ingotref13_own_33_o [1, 135] := go_region _ _
@[go_sem] def r_ingotref13_own_34_o : Ops := [
oo 136 (.fieldA 4 (.t 1)), oo 137 (.load none (.t 136)), oo 138 (.bin .lss (.t 137) (ci 1)), oo 139 (.mv (.t 138)), og 140 139 false (.fieldA 4 (.t 1)), og 141 139 false (.load none (.t 140)), og 142 139 false (.bin .gtr (.t 141) (ci 18)), oo 143 (.pick (.t 139) (.c (.bool true)) (.t 142)), oo 144 (.mv (.t 143)), og 145 144 false (.fieldA 5 (.t 1)), og 146 144 false (.load none (.t 145)), og 147 144 false (.bin .lss (.t 146) (ci 0)), oo 148 (.pick (.t 144) (.c (.bool true)) (.t 147)), oo 149 (.mv (.t 148)), og 150 149 false (.fieldA 5 (.t 1)), og 151 149 false (.load none (.t 150)), og 152 149 false (.fieldA 4 (.t 1)), og 153 149 false (.load none (.t 152)), og 154 149 false (.bin .gtr (.t 151) (.t 153)), oo 155 (.pick (.t 149) (.c (.bool true)) (.t 154))]
def r_ingotref13_own_34 := rg r_ingotref13_own_34_o [155]
@[go_sem] theorem r_ingotref13_own_34_u : Gr X K s r_ingotref13_own_34 r_ingotref13_own_34_o [155] := go_region _ _
@[go_sem] def r_ingotref13_own_35_o : Ops := [
oo 2 (.asg (ci 1))]
def r_ingotref13_own_35 := rg r_ingotref13_own_35_o [2]
@[go_sem] theorem r_ingotref13_own_35_u : Gr X K s r_ingotref13_own_35 r_ingotref13_own_35_o [2] := go_region _ _
@[go_sem] def r_ingotref13_own_36_o : Ops := [
oo 156 (.fieldA 4 (.t 1)), oo 157 (.load none (.t 156)), oo 158 (.bin .neq (.t 157) (ci 0)), oo 159 (.mv (.t 158)), og 160 159 false (.fieldA 5 (.t 1)), og 161 159 false (.load none (.t 160)), og 162 159 false (.bin .neq (.t 161) (ci 0)), oo 163 (.pick (.t 159) (.c (.bool true)) (.t 162))]
def r_ingotref13_own_36 := rg r_ingotref13_own_36_o [163]
@[go_sem] theorem r_ingotref13_own_36_u : Gr X K s r_ingotref13_own_36 r_ingotref13_own_36_o [163] := go_region _ _
@[go_sem] def r_ingotref13_own_37_o : Ops := [
oo 2 (.asg (ci 1))]
def r_ingotref13_own_37 := rg r_ingotref13_own_37_o [2]
@[go_sem] theorem r_ingotref13_own_37_u : Gr X K s r_ingotref13_own_37 r_ingotref13_own_37_o [2] := go_region _ _
@[go_sem] def r_ingotref13_own_38_o : Ops := [
oo 2 (.asg (ci 0))]
def r_ingotref13_own_38 := rg r_ingotref13_own_38_o [2]
@[go_sem] theorem r_ingotref13_own_38_u : Gr X K s r_ingotref13_own_38 r_ingotref13_own_38_o [2] := go_region _ _
def c_ingotref13_own : ICode := (.seq r_ingotref13_own_0 (.seq r_ingotref13_own_1 (.cond (.t 15) (.seq r_ingotref13_own_2 .ret) (.seq r_ingotref13_own_3 (.cond (.t 23) (.seq r_ingotref13_own_4 .ret) (.seq r_ingotref13_own_5 (.seq r_ingotref13_own_6 (.seq (.seq r_ingotref13_own_7 (.block 0 (.seq r_ingotref13_own_8 (.cond (.t 31) r_ingotref13_own_9 (.seq r_ingotref13_own_10 (.cond (.t 35) r_ingotref13_own_11 (.seq r_ingotref13_own_12 (.cond (.t 39) r_ingotref13_own_13 (.seq r_ingotref13_own_14 (.cond (.t 46) r_ingotref13_own_15 .skip)))))))))) (.seq r_ingotref13_own_16 (.cond (.t 66) (.seq r_ingotref13_own_17 .ret) (.seq (.seq r_ingotref13_own_18 (.block 1 (.loop b_ingotref13_own_29))) (.seq r_ingotref13_own_30 (.seq r_ingotref13_own_31 (.cond (.t 132) (.seq r_ingotref13_own_32 .ret) (.seq (.seq r_ingotref13_own_33 (.cond (.t 135) (.seq r_ingotref13_own_34 (.cond (.t 155) (.seq r_ingotref13_own_35 .ret) .skip)) (.seq r_ingotref13_own_36 (.cond (.t 163) (.seq r_ingotref13_own_37 .ret) .skip)))) (.seq r_ingotref13_own_38 .ret))))))))))))))))
def i_ingotref13_own : IFunc := ⟨1, [.t 2], c_ingotref13_own⟩
def a_ingotref13_own : Advice := ⟨[], [(36, [2]), (33, [2]), (32, [155]), (35, [2]), (34, [163]), (31, [1, 135]), (30, [2]), (29, [1, 132]), (28, [1, 7]), (20, [1, 5]), (25, [1, 5, 6]), (27, [2]), (26, [1, 5, 6, 104]), (24, [1, 5, 6, 91]), (23, [1, 5, 6]), (22, [2]), (21, [1, 5, 88]), (19, [1, 5, 71]), (18, [1, 5]), (17, [2]), (16, [1, 66]), (9, [1, 4]), (11, [1, 4]), (13, [1, 4]), (15, [1, 4]), (14, [1, 3, 4, 46]), (12, [1, 3, 4, 30, 39]), (10, [1, 3, 4, 30, 35]), (8, [1, 3, 4, 30, 31]), (7, [1, 3, 4, 30]), (6, [1, 3, 4]), (5, [1, 3]), (4, [2]), (3, [1, 23]), (2, [2]), (1, [1, 15]), (0, [1])], [], [], []⟩
/-! ingot/ingotref13.check -/
@[go_sem] def r_ingotref13_check_0_o : Ops := [
oo 3 (.box 6 (.t 0)), oo 6 (.asg (ci 0)), oo 7 (.asg (ci 0))]
def r_ingotref13_check_0 := rg r_ingotref13_check_0_o [1, 2, 3]
@[go_sem] theorem r_ingotref13_check_0_u : Gr X K s r_ingotref13_check_0 r_ingotref13_check_0_o [1, 2, 3] := go_region _ _
@[go_sem] def r_ingotref13_check_1_o : Ops := [
oo 12 (.mv (.t 1)), oo 13 (.bin .gtr (.t 12) (ci 16)), oo 14 (.mv (.t 13)), og 15 14 false (.mv (.t 2)), og 16 14 false (.bin .geq (.t 15) (ci 100)), oo 17 (.pick (.t 14) (.c (.bool true)) (.t 16))]
def r_ingotref13_check_1 := rg r_ingotref13_check_1_o [1, 2, 3, 17]
@[go_sem] theorem r_ingotref13_check_1_u : Gr X K s r_ingotref13_check_1 r_ingotref13_check_1_o [1, 2, 3, 17] := go_region _ _
@[go_sem] def r_ingotref13_check_2_o : Ops := [
oo 18 (.mv (.t 2)), oo 6 (.asg (.t 18)), oo 7 (.asg (ci 4))]
def r_ingotref13_check_2 := rg r_ingotref13_check_2_o [6, 7]
@[go_sem] theorem r_ingotref13_check_2_u : Gr X K s r_ingotref13_check_2 r_ingotref13_check_2_o [6, 7] := go_region _ _
@[go_sem] def r_ingotref13_check_3_o : Ops := [
oo 19 (.load (some 6) (.t 3)), oo 20 (.call false n_ingotref13_own [(.t 19)]), oo 8 (.asg (.t 20))]
def r_ingotref13_check_3 := rg r_ingotref13_check_3_o [1, 2, 3, 8]
@[go_sem] theorem r_ingotref13_check_3_u : Gr X K s r_ingotref13_check_3 r_ingotref13_check_3_o [1, 2, 3, 8] := go_region _ _
@[go_sem] def r_ingotref13_check_4_o : Ops := [
oo 21 (.mv (.t 8)), oo 22 (.bin .neq (.t 21) (ci 0))]
def r_ingotref13_check_4 := rg r_ingotref13_check_4_o [1, 2, 3, 8, 22]
@[go_sem] theorem r_ingotref13_check_4_u : Gr X K s r_ingotref13_check_4 r_ingotref13_check_4_o [1, 2, 3, 8, 22] := go_region _ _
@[go_sem] def r_ingotref13_check_5_o : Ops := [
oo 23 (.mv (.t 2)), oo 24 (.mv (.t 8)), oo 6 (.asg (.t 23)), oo 7 (.asg (.t 24))]
def r_ingotref13_check_5 := rg r_ingotref13_check_5_o [6, 7]
@[go_sem] theorem r_ingotref13_check_5_u : Gr X K s r_ingotref13_check_5 r_ingotref13_check_5_o [6, 7] := go_region _ _
@[go_sem] def r_ingotref13_check_6_o : Ops := [
oo 25 (.mv (.t 2)), oo 26 (.bin .add (.t 25) (ci 1)), oo 2 (.asg (.t 26))]
def r_ingotref13_check_6 := rg r_ingotref13_check_6_o [1, 2, 3]
@[go_sem] theorem r_ingotref13_check_6_u : Gr X K s r_ingotref13_check_6 r_ingotref13_check_6_o [1, 2, 3] := go_region _ _
@[go_sem] def r_ingotref13_check_7_o : Ops := [
oo 9 (.asg (ci 0))]
def r_ingotref13_check_7 := rg r_ingotref13_check_7_o [1, 2, 3, 9]
@[go_sem] theorem r_ingotref13_check_7_u : Gr X K s r_ingotref13_check_7 r_ingotref13_check_7_o [1, 2, 3, 9] := go_region _ _
@[go_sem] def r_ingotref13_check_8_o : Ops := [
oo 27 (.mv (.t 9)), oo 28 (.fieldA 2 (.t 3)), oo 29 (.load none (.t 28)), oo 30 (.len false (.t 29)), oo 31 (.bin .lss (.t 27) (.t 30))]
def r_ingotref13_check_8 := rg r_ingotref13_check_8_o [1, 2, 3, 9, 31]
@[go_sem] theorem r_ingotref13_check_8_u : Gr X K s r_ingotref13_check_8 r_ingotref13_check_8_o [1, 2, 3, 9, 31] := go_region _ _
@[go_sem] def r_ingotref13_check_9_o : Ops := [
oo 35 (.fieldA 2 (.t 3)), oo 36 (.load none (.t 35)), oo 37 (.mv (.t 9)), oo 38 (.idxA 6 (.t 36) (.t 37)), oo 39 (.load (some 6) (.t 38)), oo 40 (.mv (.t 1)), oo 41 (.bin .add (.t 40) (ci 1)), oo 42 (.mv (.t 2)), oo 43 (.call false n_ingotref13_check [(.t 39), (.t 41), (.t 42)]), oo 34 (.mv (.t 43)), oo 44 (.ext (.t 34) 0), oo 45 (.ext (.t 34) 1), oo 10 (.asg (.t 44)), oo 11 (.asg (.t 45))]
def r_ingotref13_check_9 := rg r_ingotref13_check_9_o [1, 3, 9, 10, 11]
@[go_sem] theorem r_ingotref13_check_9_u : Gr X K s r_ingotref13_check_9 r_ingotref13_check_9_o [1, 3, 9, 10, 11] := go_region _ _
@[go_sem] def r_ingotref13_check_10_o : Ops := [
oo 46 (.mv (.t 11)), oo 47 (.bin .neq (.t 46) (ci 0))]
def r_ingotref13_check_10 := rg r_ingotref13_check_10_o [1, 3, 9, 10, 11, 47]
@[go_sem] theorem r_ingotref13_check_10_u : Gr X K s r_ingotref13_check_10 r_ingotref13_check_10_o [1, 3, 9, 10, 11, 47] := go_region _ _
@[go_sem] def r_ingotref13_check_11_o : Ops := [
oo 48 (.mv (.t 10)), oo 49 (.mv (.t 11)), oo 6 (.asg (.t 48)), oo 7 (.asg (.t 49))]
def r_ingotref13_check_11 := rg r_ingotref13_check_11_o [6, 7]
@[go_sem] theorem r_ingotref13_check_11_u : Gr X K s r_ingotref13_check_11 r_ingotref13_check_11_o [6, 7] := go_region _ _
@[go_sem] def r_ingotref13_check_12_o : Ops := [
oo 50 (.mv (.t 10)), oo 2 (.asg (.t 50))]
def r_ingotref13_check_12 := rg r_ingotref13_check_12_o [1, 2, 3, 9]
@[go_sem] theorem r_ingotref13_check_12_u : Gr X K s r_ingotref13_check_12 r_ingotref13_check_12_o [1, 2, 3, 9] := go_region _ _
@[go_sem] def r_ingotref13_check_13_o : Ops := [
oo 32 (.mv (.t 9)), oo 33 (.bin .add (.t 32) (ci 1)), oo 9 (.asg (.t 33))]
def r_ingotref13_check_13 := rg r_ingotref13_check_13_o [1, 2, 3, 9]
@[go_sem] theorem r_ingotref13_check_13_u : Gr X K s r_ingotref13_check_13 r_ingotref13_check_13_o [1, 2, 3, 9] := go_region _ _
def b_ingotref13_check_14 : ICode := (.seq (.seq r_ingotref13_check_8 (.cond (.t 31) .skip (.exit 0))) (.seq (.block 1 (.seq r_ingotref13_check_9 (.seq (.seq r_ingotref13_check_10 (.cond (.t 47) (.seq r_ingotref13_check_11 .ret) .skip)) r_ingotref13_check_12))) r_ingotref13_check_13))
@[go_sem] theorem b_ingotref13_check_14_u : Gn X K s b_ingotref13_check_14 (.seq (.seq r_ingotref13_check_8 (.cond (.t 31) .skip (.exit 0))) (.seq (.block 1 (.seq r_ingotref13_check_9 (.seq (.seq r_ingotref13_check_10 (.cond (.t 47) (.seq r_ingotref13_check_11 .ret) .skip)) r_ingotref13_check_12))) r_ingotref13_check_13)) := rfl
@[go_sem] def r_ingotref13_check_15_o : Ops := [
oo 51 (.mv (.t 2)), oo 6 (.asg (.t 51)), oo 7 (.asg (ci 0))]
def r_ingotref13_check_15 := rg r_ingotref13_check_15_o [6, 7]
@[go_sem] theorem r_ingotref13_check_15_u : Gr X K s r_ingotref13_check_15 r_ingotref13_check_15_o [6, 7] := go_region _ _
def c_ingotref13_check : ICode := (.seq r_ingotref13_check_0 (.seq r_ingotref13_check_1 (.cond (.t 17) (.seq r_ingotref13_check_2 .ret) (.seq r_ingotref13_check_3 (.seq r_ingotref13_check_4 (.cond (.t 22) (.seq r_ingotref13_check_5 .ret) (.seq r_ingotref13_check_6 (.seq (.seq r_ingotref13_check_7 (.block 0 (.loop b_ingotref13_check_14))) (.seq r_ingotref13_check_15 .ret)))))))))
def i_ingotref13_check : IFunc := ⟨3, [.t 6, .t 7], c_ingotref13_check⟩
def a_ingotref13_check : Advice := ⟨[], [(14, [6, 7]), (9, [1, 2, 3, 9]), (13, [1, 2, 3, 9]), (12, [6, 7]), (11, [1, 3, 9, 10, 11, 47]), (10, [1, 3, 9, 10, 11]), (8, [1, 2, 3, 9, 31]), (7, [1, 2, 3, 9]), (6, [1, 2, 3]), (5, [6, 7]), (4, [1, 2, 3, 8, 22]), (3, [1, 2, 3, 8]), (2, [6, 7]), (1, [1, 2, 3, 17]), (0, [1, 2, 3])], [], [], []⟩
/-! ingot/ingotref13.Check -/
@[go_sem] def r_ingotref13_Check_0_o : Ops := [
oo 1 (.box 6 (.t 0)), oo 2 (.asg (ci 0))]
def r_ingotref13_Check_0 := rg r_ingotref13_Check_0_o [1]
@[go_sem] theorem r_ingotref13_Check_0_u : Gr X K s r_ingotref13_Check_0 r_ingotref13_Check_0_o [1] := go_region _ _
@[go_sem] def r_ingotref13_Check_1_o : Ops := [
oo 6 (.load (some 6) (.t 1)), oo 7 (.call false n_ingotref13_check [(.t 6), (ci 1), (ci 0)]), oo 5 (.mv (.t 7)), oo 8 (.ext (.t 5) 0), oo 9 (.ext (.t 5) 1), oo 3 (.asg (.t 8)), oo 4 (.asg (.t 9))]
def r_ingotref13_Check_1 := rg r_ingotref13_Check_1_o [4]
@[go_sem] theorem r_ingotref13_Check_1_u : Gr X K s r_ingotref13_Check_1 r_ingotref13_Check_1_o [4] := go_region _ _
@[go_sem] def r_ingotref13_Check_2_o : Ops := [
oo 10 (.mv (.t 4)), oo 2 (.asg (.t 10))]
def r_ingotref13_Check_2 := rg r_ingotref13_Check_2_o [2]
@[go_sem] theorem r_ingotref13_Check_2_u : Gr X K s r_ingotref13_Check_2 r_ingotref13_Check_2_o [2] := go_region _ _
def c_ingotref13_Check : ICode := (.seq r_ingotref13_Check_0 (.seq r_ingotref13_Check_1 (.seq r_ingotref13_Check_2 .ret)))
def i_ingotref13_Check : IFunc := ⟨1, [.t 2], c_ingotref13_Check⟩
def a_ingotref13_Check : Advice := ⟨[], [(2, [2]), (1, [4]), (0, [1])], [], [], []⟩
/-! ingot/ingotlaw13.few -/
@[go_sem] def r_ingotlaw13_few_0_o : Ops := [
oo 2 (.box 6 (.t 0)), oo 4 (.asg (ci 0))]
def r_ingotlaw13_few_0 := rg r_ingotlaw13_few_0_o [1, 2]
@[go_sem] theorem r_ingotlaw13_few_0_u : Gr X K s r_ingotlaw13_few_0 r_ingotlaw13_few_0_o [1, 2] := go_region _ _
@[go_sem] def r_ingotlaw13_few_1_o : Ops := [
oo 8 (.mv (.t 1)), oo 9 (.bin .gtr (.t 8) (ci 20)), oo 10 (.mv (.t 9)), og 11 10 false (.fieldA 2 (.t 2)), og 12 10 false (.load none (.t 11)), og 13 10 false (.len false (.t 12)), og 14 10 false (.bin .gtr (.t 13) (ci 300)), oo 15 (.pick (.t 10) (.c (.bool true)) (.t 14)), oo 16 (.mv (.t 15)), og 17 16 false (.fieldA 1 (.t 2)), og 18 16 false (.load none (.t 17)), og 19 16 false (.len false (.t 18)), og 20 16 false (.bin .gtr (.t 19) (ci 300)), oo 21 (.pick (.t 16) (.c (.bool true)) (.t 20))]
def r_ingotlaw13_few_1 := rg r_ingotlaw13_few_1_o [1, 2, 21]
@[go_sem] theorem r_ingotlaw13_few_1_u : Gr X K s r_ingotlaw13_few_1 r_ingotlaw13_few_1_o [1, 2, 21] := go_region _ _
@[go_sem] def r_ingotlaw13_few_2_o : Ops := [
oo 4 (.asg (ci 1000))]
def r_ingotlaw13_few_2 := rg r_ingotlaw13_few_2_o [4]
@[go_sem] theorem r_ingotlaw13_few_2_u : Gr X K s r_ingotlaw13_few_2 r_ingotlaw13_few_2_o [4] := go_region _ _
@[go_sem] def r_ingotlaw13_few_3_o : Ops := [
oo 5 (.asg (ci 1))]
def r_ingotlaw13_few_3 := rg r_ingotlaw13_few_3_o [1, 2, 5]
@[go_sem] theorem r_ingotlaw13_few_3_u : Gr X K s r_ingotlaw13_few_3 r_ingotlaw13_few_3_o [1, 2, 5] := go_region _ _
@[go_sem] def r_ingotlaw13_few_4_o : Ops := [
oo 6 (.asg (ci 0))]
def r_ingotlaw13_few_4 := rg r_ingotlaw13_few_4_o [1, 2, 5, 6]
@[go_sem] theorem r_ingotlaw13_few_4_u : Gr X K s r_ingotlaw13_few_4 r_ingotlaw13_few_4_o [1, 2, 5, 6] := go_region _ _
@[go_sem] def r_ingotlaw13_few_5_o : Ops := [
oo 22 (.mv (.t 6)), oo 23 (.fieldA 1 (.t 2)), oo 24 (.load none (.t 23)), oo 25 (.len false (.t 24)), oo 26 (.bin .lss (.t 22) (.t 25))]
def r_ingotlaw13_few_5 := rg r_ingotlaw13_few_5_o [1, 2, 5, 6, 26]
@[go_sem] theorem r_ingotlaw13_few_5_u : Gr X K s r_ingotlaw13_few_5 r_ingotlaw13_few_5_o [1, 2, 5, 6, 26] := go_region _ _
@[go_sem] def r_ingotlaw13_few_6_o : Ops := [
oo 29 (.fieldA 1 (.t 2)), oo 30 (.load none (.t 29)), oo 31 (.mv (.t 6)), oo 32 (.idxA 1 (.t 30) (.t 31)), oo 33 (.load none (.t 32)), oo 34 (.len true (.t 33)), oo 35 (.bin .gtr (.t 34) (ci 200))]
def r_ingotlaw13_few_6 := rg r_ingotlaw13_few_6_o [1, 2, 5, 6, 35]
@[go_sem] theorem r_ingotlaw13_few_6_u : Gr X K s r_ingotlaw13_few_6 r_ingotlaw13_few_6_o [1, 2, 5, 6, 35] := go_region _ _
@[go_sem] def r_ingotlaw13_few_7_o : Ops := [
oo 4 (.asg (ci 1000))]
def r_ingotlaw13_few_7 := rg r_ingotlaw13_few_7_o [4]
@[go_sem] theorem r_ingotlaw13_few_7_u : Gr X K s r_ingotlaw13_few_7 r_ingotlaw13_few_7_o [4] := go_region _ _
@[go_sem] def r_ingotlaw13_few_8_o : Ops := [
oo 27 (.mv (.t 6)), oo 28 (.bin .add (.t 27) (ci 1)), oo 6 (.asg (.t 28))]
def r_ingotlaw13_few_8 := rg r_ingotlaw13_few_8_o [1, 2, 5, 6]
@[go_sem] theorem r_ingotlaw13_few_8_u : Gr X K s r_ingotlaw13_few_8 r_ingotlaw13_few_8_o [1, 2, 5, 6] := go_region _ _
def b_ingotlaw13_few_9 : ICode := (.seq (.seq r_ingotlaw13_few_5 (.cond (.t 26) .skip (.exit 0))) (.seq (.block 1 (.seq r_ingotlaw13_few_6 (.cond (.t 35) (.seq r_ingotlaw13_few_7 .ret) .skip))) r_ingotlaw13_few_8))
@[go_sem] theorem b_ingotlaw13_few_9_u : Gn X K s b_ingotlaw13_few_9 (.seq (.seq r_ingotlaw13_few_5 (.cond (.t 26) .skip (.exit 0))) (.seq (.block 1 (.seq r_ingotlaw13_few_6 (.cond (.t 35) (.seq r_ingotlaw13_few_7 .ret) .skip))) r_ingotlaw13_few_8)) := rfl
@[go_sem] def r_ingotlaw13_few_10_o : Ops := [
oo 7 (.asg (ci 0))]
def r_ingotlaw13_few_10 := rg r_ingotlaw13_few_10_o [1, 2, 5, 7]
@[go_sem] theorem r_ingotlaw13_few_10_u : Gr X K s r_ingotlaw13_few_10 r_ingotlaw13_few_10_o [1, 2, 5, 7] := go_region _ _
@[go_sem] def r_ingotlaw13_few_11_o : Ops := [
oo 36 (.mv (.t 7)), oo 37 (.fieldA 2 (.t 2)), oo 38 (.load none (.t 37)), oo 39 (.len false (.t 38)), oo 40 (.bin .lss (.t 36) (.t 39))]
def r_ingotlaw13_few_11 := rg r_ingotlaw13_few_11_o [1, 2, 5, 7, 40]
@[go_sem] theorem r_ingotlaw13_few_11_u : Gr X K s r_ingotlaw13_few_11 r_ingotlaw13_few_11_o [1, 2, 5, 7, 40] := go_region _ _
@[go_sem] def r_ingotlaw13_few_12_o : Ops := [
oo 43 (.mv (.t 5)), oo 44 (.fieldA 2 (.t 2)), oo 45 (.load none (.t 44)), oo 46 (.mv (.t 7)), oo 47 (.idxA 6 (.t 45) (.t 46)), oo 48 (.load (some 6) (.t 47)), oo 49 (.mv (.t 1)), oo 50 (.bin .add (.t 49) (ci 1)), oo 51 (.call false n_ingotlaw13_few [(.t 48), (.t 50)]), oo 52 (.bin .add (.t 43) (.t 51)), oo 5 (.asg (.t 52))]
def r_ingotlaw13_few_12 := rg r_ingotlaw13_few_12_o [1, 2, 5, 7]
@[go_sem] theorem r_ingotlaw13_few_12_u : Gr X K s r_ingotlaw13_few_12 r_ingotlaw13_few_12_o [1, 2, 5, 7] := go_region _ _
@[go_sem] def r_ingotlaw13_few_13_o : Ops := [
oo 53 (.mv (.t 5)), oo 54 (.bin .gtr (.t 53) (ci 1000))]
def r_ingotlaw13_few_13 := rg r_ingotlaw13_few_13_o [1, 2, 5, 7, 54]
@[go_sem] theorem r_ingotlaw13_few_13_u : Gr X K s r_ingotlaw13_few_13 r_ingotlaw13_few_13_o [1, 2, 5, 7, 54] := go_region _ _
@[go_sem] def r_ingotlaw13_few_14_o : Ops := [
oo 4 (.asg (ci 1000))]
def r_ingotlaw13_few_14 := rg r_ingotlaw13_few_14_o [4]
@[go_sem] theorem r_ingotlaw13_few_14_u : Gr X K s r_ingotlaw13_few_14 r_ingotlaw13_few_14_o [4] := go_region _ _
@[go_sem] def r_ingotlaw13_few_15_o : Ops := [
oo 41 (.mv (.t 7)), oo 42 (.bin .add (.t 41) (ci 1)), oo 7 (.asg (.t 42))]
def r_ingotlaw13_few_15 := rg r_ingotlaw13_few_15_o [1, 2, 5, 7]
@[go_sem] theorem r_ingotlaw13_few_15_u : Gr X K s r_ingotlaw13_few_15 r_ingotlaw13_few_15_o [1, 2, 5, 7] := go_region _ _
def b_ingotlaw13_few_16 : ICode := (.seq (.seq r_ingotlaw13_few_11 (.cond (.t 40) .skip (.exit 2))) (.seq (.block 3 (.seq r_ingotlaw13_few_12 (.seq r_ingotlaw13_few_13 (.cond (.t 54) (.seq r_ingotlaw13_few_14 .ret) .skip)))) r_ingotlaw13_few_15))
@[go_sem] theorem b_ingotlaw13_few_16_u : Gn X K s b_ingotlaw13_few_16 (.seq (.seq r_ingotlaw13_few_11 (.cond (.t 40) .skip (.exit 2))) (.seq (.block 3 (.seq r_ingotlaw13_few_12 (.seq r_ingotlaw13_few_13 (.cond (.t 54) (.seq r_ingotlaw13_few_14 .ret) .skip)))) r_ingotlaw13_few_15)) := rfl
@[go_sem] def r_ingotlaw13_few_17_o : Ops := [
oo 55 (.mv (.t 5)), oo 4 (.asg (.t 55))]
def r_ingotlaw13_few_17 := rg r_ingotlaw13_few_17_o [4]
@[go_sem] theorem r_ingotlaw13_few_17_u : Gr X K s r_ingotlaw13_few_17 r_ingotlaw13_few_17_o [4] := go_region _ _
def c_ingotlaw13_few : ICode := (.seq r_ingotlaw13_few_0 (.seq r_ingotlaw13_few_1 (.cond (.t 21) (.seq r_ingotlaw13_few_2 .ret) (.seq r_ingotlaw13_few_3 (.seq (.seq r_ingotlaw13_few_4 (.block 0 (.loop b_ingotlaw13_few_9))) (.seq (.seq r_ingotlaw13_few_10 (.block 2 (.loop b_ingotlaw13_few_16))) (.seq r_ingotlaw13_few_17 .ret)))))))
def i_ingotlaw13_few : IFunc := ⟨2, [.t 4], c_ingotlaw13_few⟩
def a_ingotlaw13_few : Advice := ⟨[], [(15, [4]), (11, [1, 2, 5, 7]), (14, [4]), (13, [1, 2, 5, 7, 54]), (12, [1, 2, 5, 7]), (10, [1, 2, 5, 7, 40]), (9, [1, 2, 5, 7]), (6, [1, 2, 5, 6]), (8, [4]), (7, [1, 2, 5, 6, 35]), (5, [1, 2, 5, 6, 26]), (4, [1, 2, 5, 6]), (3, [1, 2, 5]), (2, [4]), (1, [1, 2, 21]), (0, [1, 2])], [], [], []⟩
/-! ingot/ingotlaw13.Few -/
@[go_sem] def r_ingotlaw13_Few_0_o : Ops := [
oo 1 (.box 6 (.t 0)), oo 2 (.asg (.c (.bool false)))]
def r_ingotlaw13_Few_0 := rg r_ingotlaw13_Few_0_o [1]
@[go_sem] theorem r_ingotlaw13_Few_0_u : Gr X K s r_ingotlaw13_Few_0 r_ingotlaw13_Few_0_o [1] := go_region _ _
@[go_sem] def r_ingotlaw13_Few_1_o : Ops := [
oo 4 (.load (some 6) (.t 1)), oo 5 (.call false n_ingotlaw13_few [(.t 4), (ci 1)]), oo 3 (.asg (.t 5))]
def r_ingotlaw13_Few_1 := rg r_ingotlaw13_Few_1_o [3]
@[go_sem] theorem r_ingotlaw13_Few_1_u : Gr X K s r_ingotlaw13_Few_1 r_ingotlaw13_Few_1_o [3] := go_region _ _
@[go_sem] def r_ingotlaw13_Few_2_o : Ops := [
oo 6 (.mv (.t 3)), oo 7 (.bin .leq (.t 6) (ci 150)), oo 2 (.asg (.t 7))]
def r_ingotlaw13_Few_2 := rg r_ingotlaw13_Few_2_o [2]
@[go_sem] theorem r_ingotlaw13_Few_2_u : Gr X K s r_ingotlaw13_Few_2 r_ingotlaw13_Few_2_o [2] := go_region _ _
def c_ingotlaw13_Few : ICode := (.seq r_ingotlaw13_Few_0 (.seq r_ingotlaw13_Few_1 (.seq r_ingotlaw13_Few_2 .ret)))
def i_ingotlaw13_Few : IFunc := ⟨1, [.t 2], c_ingotlaw13_Few⟩
def a_ingotlaw13_Few : Advice := ⟨[], [(2, [2]), (1, [3]), (0, [1])], [], [], []⟩
/-! ingot/ingotlaw14.Right -/
@[go_sem] def r_ingotlaw14_Right_0_o : Ops := [
oo 1 (.box 6 (.t 0)), oo 2 (.asg (.c (.bool false)))]
def r_ingotlaw14_Right_0 := rg r_ingotlaw14_Right_0_o [1]
@[go_sem] theorem r_ingotlaw14_Right_0_u : Gr X K s r_ingotlaw14_Right_0 r_ingotlaw14_Right_0_o [1] := go_region _ _
@[go_sem] def r_ingotlaw14_Right_1_o : Ops := [
oo 3 (.load (some 6) (.t 1)), oo 4 (.call false n_ingotlaw13_Few [(.t 3)]), oo 5 (.mv (.t 4)), og 6 5 true (.load (some 6) (.t 1)), og 7 5 true (.call false n_ingotref13_Check [(.t 6)]), og 8 5 true (.bin .eql (.t 7) (ci 0)), oo 9 (.pick (.t 5) (.t 8) (.c (.bool false))), oo 2 (.asg (.t 9))]
def r_ingotlaw14_Right_1 := rg r_ingotlaw14_Right_1_o [2]
@[go_sem] theorem r_ingotlaw14_Right_1_u : Gr X K s r_ingotlaw14_Right_1 r_ingotlaw14_Right_1_o [2] := go_region _ _
def c_ingotlaw14_Right : ICode := (.seq r_ingotlaw14_Right_0 (.seq r_ingotlaw14_Right_1 .ret))
def i_ingotlaw14_Right : IFunc := ⟨1, [.t 2], c_ingotlaw14_Right⟩
def a_ingotlaw14_Right : Advice := ⟨[], [(1, [2]), (0, [1])], [], [], []⟩
/-! ingot/value.Zero -/
@[go_sem] def r_value_Zero_0_o : Ops := [
oo 1 (.box 6 (.t 0)), oo 2 (.alloc [(.bool false), (.int .i64 0), (.int .i64 0), .nilS, .nilS])]
def r_value_Zero_0 := rg r_value_Zero_0_o [1, 2]
@[go_sem] theorem r_value_Zero_0_u : Gr X K s r_value_Zero_0 r_value_Zero_0_o [1, 2] := go_region _ _
@[go_sem] def r_value_Zero_1_o : Ops := [
oo 3 (.alloc [(.bool false), (.int .i64 0), (.int .i64 0), .nilS, .nilS])]
def r_value_Zero_1 := rg r_value_Zero_1_o [1, 2, 3]
@[go_sem] theorem r_value_Zero_1_u : Gr X K s r_value_Zero_1 r_value_Zero_1_o [1, 2, 3] := go_region _ _
@[go_sem] def r_value_Zero_2_o : Ops := [
oo 6 (.fieldA 0 (.t 1)), oo 7 (.load none (.t 6))]
def r_value_Zero_2 := rg r_value_Zero_2_o [1, 2, 3, 7]
@[go_sem] theorem r_value_Zero_2_u : Gr X K s r_value_Zero_2 r_value_Zero_2_o [1, 2, 3, 7] := go_region _ _
@[go_sem] def r_value_Zero_3_o : Ops := [
oo 9 (.bin .eql (.t 7) (ci 13)), oo 8 (.asg (.t 9))]
def r_value_Zero_3 := rg r_value_Zero_3_o [1, 2, 3, 7, 8]
@[go_sem] theorem r_value_Zero_3_u : Gr X K s r_value_Zero_3 r_value_Zero_3_o [1, 2, 3, 7, 8] := go_region _ _
@[go_sem] def r_value_Zero_4_o : Ops := [
oo 10 (.fieldA 2 (.t 1)), oo 11 (.load none (.t 10)), oo 12 (.len false (.t 11)), oo 13 (.bin .gtr (.t 12) (ci 0))]
def r_value_Zero_4 := rg r_value_Zero_4_o [1, 2, 3, 13]
@[go_sem] theorem r_value_Zero_4_u : Gr X K s r_value_Zero_4 r_value_Zero_4_o [1, 2, 3, 13] := go_region _ _
@[go_sem] def r_value_Zero_5_o : Ops := [
oo 14 (.fieldA 2 (.t 1)), oo 15 (.load none (.t 14)), oo 16 (.idxA 6 (.t 15) (ci 0)), oo 17 (.load (some 6) (.t 16)), oo 18 (.call false n_value_Zero [(.t 17)]), oo 19 (.lit true 5 1 (.agg [(.bool false), (.int .i64 0), (.int .i64 0), (.sl []), (.sl [])]) [(0, (.t 18))]), oo 20 (.fieldA 4 (.t 3)), ow (.store 1 (.t 20) (.t 19))]
def r_value_Zero_5 := rg r_value_Zero_5_o [2, 3]
@[go_sem] theorem r_value_Zero_5_u : Gr X K s r_value_Zero_5 r_value_Zero_5_o [2, 3] := go_region _ _
@[go_sem] def r_value_Zero_6_o : Ops := [
oo 22 (.bin .eql (.t 7) (ci 12)), oo 21 (.asg (.t 22))]
def r_value_Zero_6 := rg r_value_Zero_6_o [1, 2, 3, 21]
@[go_sem] theorem r_value_Zero_6_u : Gr X K s r_value_Zero_6 r_value_Zero_6_o [1, 2, 3, 21] := go_region _ _
@[go_sem] def r_value_Zero_7_o : Ops := [
oo 23 (.fieldA 2 (.t 1)), oo 24 (.load none (.t 23)), oo 25 (.len false (.t 24)), oo 26 (.mv (ci 0))]
def r_value_Zero_7 := rg r_value_Zero_7_o [2, 3, 24, 25, 26]
@[go_sem] theorem r_value_Zero_7_u : Gr X K s r_value_Zero_7 r_value_Zero_7_o [2, 3, 24, 25, 26] := go_region _ _
@[go_sem] def r_value_Zero_8_o : Ops := [
oo 27 (.bin .lss (.t 26) (.t 25))]
def r_value_Zero_8 := rg r_value_Zero_8_o [2, 3, 24, 25, 26, 27]
@[go_sem] theorem r_value_Zero_8_u : Gr X K s r_value_Zero_8 r_value_Zero_8_o [2, 3, 24, 25, 26, 27] := go_region _ _
@[go_sem] def r_value_Zero_9_o : Ops := [
oo 28 (.idxA 6 (.t 24) (.t 26)), oo 29 (.load (some 6) (.t 28)), oo 5 (.alloc [(.int .i64 0), .nilS, .nilS, (.int .i64 0), (.int .i64 0), (.int .i64 0)]), ow (.store 6 (.t 5) (.t 29))]
def r_value_Zero_9 := rg r_value_Zero_9_o [2, 3, 5, 24, 25, 26]
@[go_sem] theorem r_value_Zero_9_u : Gr X K s r_value_Zero_9 r_value_Zero_9_o [2, 3, 5, 24, 25, 26] := go_region _ _
@[go_sem] def r_value_Zero_10_o : Ops := [
oo 30 (.fieldA 4 (.t 3)), oo 31 (.load none (.t 30)), oo 32 (.load (some 6) (.t 5)), oo 33 (.call false n_value_Zero [(.t 32)]), oo 34 (.lit false 5 1 (.agg [(.bool false), (.int .i64 0), (.int .i64 0), (.sl []), (.sl [])]) [(0, (.t 33))]), oo 35 (.append 5 72 (.t 31) (.t 34)), oo 36 (.fieldA 4 (.t 3)), ow (.store 1 (.t 36) (.t 35))]
def r_value_Zero_10_n : List (Nat × Nat) := [(0, 2), (1, 2), (0, 3), (1, 3), (0, 4), (1, 4)]
def r_value_Zero_10 : ICode := .region r_value_Zero_10_o r_value_Zero_10_n [2, 3, 24, 25, 26]
@[go_sem] theorem r_value_Zero_10_u : go X (.c r_value_Zero_10 :: K) s = goRU X [] r_value_Zero_10_n r_value_Zero_10_o [2, 3, 24, 25, 26] K s := go_regionU' _ _ _ _
@[go_sem] def r_value_Zero_11_o : Ops := [
oo 37 (.bin .add (.t 26) (ci 1)), oo 26 (.mv (.t 37))]
def r_value_Zero_11 := rg r_value_Zero_11_o [2, 3, 24, 25, 26]
@[go_sem] theorem r_value_Zero_11_u : Gr X K s r_value_Zero_11 r_value_Zero_11_o [2, 3, 24, 25, 26] := go_region _ _
def b_value_Zero_12 : ICode := (.seq r_value_Zero_8 (.seq (.cond (.t 27) .skip (.exit 1)) (.seq (.block 2 (.seq (.seq (.free 5) r_value_Zero_9) r_value_Zero_10)) r_value_Zero_11)))
@[go_sem] theorem b_value_Zero_12_u : Gn X K s b_value_Zero_12 (.seq r_value_Zero_8 (.seq (.cond (.t 27) .skip (.exit 1)) (.seq (.block 2 (.seq (.seq (.free 5) r_value_Zero_9) r_value_Zero_10)) r_value_Zero_11))) := rfl
@[go_sem] def r_value_Zero_13_o : Ops := [
oo 38 (.fieldA 4 (.t 3)), oo 39 (.load none (.t 38)), oo 40 (.call true n_slices_Clip_Sapi_Value_api_Value [(.t 39)]), oo 41 (.fieldA 4 (.t 3)), ow (.store 1 (.t 41) (.t 40))]
def r_value_Zero_13 := rg r_value_Zero_13_o [2, 3]
@[go_sem] theorem r_value_Zero_13_u : Gr X K s r_value_Zero_13 r_value_Zero_13_o [2, 3] := go_region _ _
@[go_sem] def r_value_Zero_14_o : Ops := [
oo 42 (.load (some 5) (.t 3)), ow (.store 5 (.t 2) (.t 42))]
def r_value_Zero_14 := rg r_value_Zero_14_o [2]
@[go_sem] theorem r_value_Zero_14_u : Gr X K s r_value_Zero_14 r_value_Zero_14_o [2] := go_region _ _
def c_value_Zero : ICode := (.seq r_value_Zero_0 (.seq r_value_Zero_1 (.seq (.seq r_value_Zero_2 (.block 0 (.seq r_value_Zero_3 (.cond (.t 8) (.seq r_value_Zero_4 (.cond (.t 13) r_value_Zero_5 .skip)) (.seq r_value_Zero_6 (.cond (.t 21) (.seq r_value_Zero_7 (.block 1 (.loop b_value_Zero_12))) .skip)))))) (.seq r_value_Zero_13 (.seq r_value_Zero_14 .ret)))))
def i_value_Zero : IFunc := ⟨1, [.cell 2 (some 5)], c_value_Zero⟩
def a_value_Zero : Advice := ⟨[19, 35, 40], [(13, [2]), (12, [2, 3]), (5, [2, 3]), (4, [1, 2, 3, 13]), (11, [2, 3, 24, 25, 26]), (10, [2, 3, 24, 25, 26]), (9, [2, 3, 5, 24, 25, 26]), (8, [2, 3, 24, 25, 26, 27]), (7, [2, 3, 24, 25, 26]), (6, [1, 2, 3, 21]), (3, [1, 2, 3, 7, 8]), (2, [1, 2, 3, 7]), (1, [1, 2, 3]), (0, [1, 2])], [], [(9, [5])], []⟩
/-! slices.EqualFunc[[]ingot/api.Value,[]ingot/api.Value,ingot/api.Value,ingot/api.Value] -/
@[go_sem] def r_slices_EqualFunc_Sapi_Value_Sapi_Value_api_Value_api_Value_0_o : Ops := [
oo 6 (.asg (.c (.bool false)))]
def r_slices_EqualFunc_Sapi_Value_Sapi_Value_api_Value_api_Value_0 := rg r_slices_EqualFunc_Sapi_Value_Sapi_Value_api_Value_api_Value_0_o [0, 1, 2]
@[go_sem] theorem r_slices_EqualFunc_Sapi_Value_Sapi_Value_api_Value_api_Value_0_u : Gr X K s r_slices_EqualFunc_Sapi_Value_Sapi_Value_api_Value_api_Value_0 r_slices_EqualFunc_Sapi_Value_Sapi_Value_api_Value_api_Value_0_o [0, 1, 2] := go_region _ _
@[go_sem] def r_slices_EqualFunc_Sapi_Value_Sapi_Value_api_Value_api_Value_1_o : Ops := [
oo 10 (.mv (.t 0)), oo 11 (.len false (.t 10)), oo 12 (.mv (.t 1)), oo 13 (.len false (.t 12)), oo 14 (.bin .neq (.t 11) (.t 13))]
def r_slices_EqualFunc_Sapi_Value_Sapi_Value_api_Value_api_Value_1 := rg r_slices_EqualFunc_Sapi_Value_Sapi_Value_api_Value_api_Value_1_o [0, 1, 2, 14]
@[go_sem] theorem r_slices_EqualFunc_Sapi_Value_Sapi_Value_api_Value_api_Value_1_u : Gr X K s r_slices_EqualFunc_Sapi_Value_Sapi_Value_api_Value_api_Value_1 r_slices_EqualFunc_Sapi_Value_Sapi_Value_api_Value_api_Value_1_o [0, 1, 2, 14] := go_region _ _
@[go_sem] def r_slices_EqualFunc_Sapi_Value_Sapi_Value_api_Value_api_Value_2_o : Ops := [
oo 6 (.asg (.c (.bool false)))]
def r_slices_EqualFunc_Sapi_Value_Sapi_Value_api_Value_api_Value_2 := rg r_slices_EqualFunc_Sapi_Value_Sapi_Value_api_Value_api_Value_2_o [6]
@[go_sem] theorem r_slices_EqualFunc_Sapi_Value_Sapi_Value_api_Value_api_Value_2_u : Gr X K s r_slices_EqualFunc_Sapi_Value_Sapi_Value_api_Value_api_Value_2 r_slices_EqualFunc_Sapi_Value_Sapi_Value_api_Value_api_Value_2_o [6] := go_region _ _
@[go_sem] def r_slices_EqualFunc_Sapi_Value_Sapi_Value_api_Value_api_Value_3_o : Ops := [
oo 15 (.mv (.t 0)), oo 16 (.len false (.t 15)), oo 17 (.mv (ci 0))]
def r_slices_EqualFunc_Sapi_Value_Sapi_Value_api_Value_api_Value_3 := rg r_slices_EqualFunc_Sapi_Value_Sapi_Value_api_Value_api_Value_3_o [1, 2, 15, 16, 17]
@[go_sem] theorem r_slices_EqualFunc_Sapi_Value_Sapi_Value_api_Value_api_Value_3_u : Gr X K s r_slices_EqualFunc_Sapi_Value_Sapi_Value_api_Value_api_Value_3 r_slices_EqualFunc_Sapi_Value_Sapi_Value_api_Value_api_Value_3_o [1, 2, 15, 16, 17] := go_region _ _
@[go_sem] def r_slices_EqualFunc_Sapi_Value_Sapi_Value_api_Value_api_Value_4_o : Ops := [
oo 18 (.bin .lss (.t 17) (.t 16))]
def r_slices_EqualFunc_Sapi_Value_Sapi_Value_api_Value_api_Value_4 := rg r_slices_EqualFunc_Sapi_Value_Sapi_Value_api_Value_api_Value_4_o [1, 2, 15, 16, 17, 18]
@[go_sem] theorem r_slices_EqualFunc_Sapi_Value_Sapi_Value_api_Value_api_Value_4_u : Gr X K s r_slices_EqualFunc_Sapi_Value_Sapi_Value_api_Value_api_Value_4 r_slices_EqualFunc_Sapi_Value_Sapi_Value_api_Value_api_Value_4_o [1, 2, 15, 16, 17, 18] := go_region _ _
@[go_sem] def r_slices_EqualFunc_Sapi_Value_Sapi_Value_api_Value_api_Value_5_o : Ops := [
oo 19 (.mv (.t 17)), oo 20 (.idxA 5 (.t 15) (.t 17)), oo 21 (.load (some 5) (.t 20)), oo 8 (.alloc [(.bool false), (.int .i64 0), (.int .i64 0), .nilS, .nilS]), oo 7 (.asg (.t 19)), ow (.store 5 (.t 8) (.t 21))]
def r_slices_EqualFunc_Sapi_Value_Sapi_Value_api_Value_api_Value_5 := rg r_slices_EqualFunc_Sapi_Value_Sapi_Value_api_Value_api_Value_5_o [1, 2, 7, 8, 15, 16, 17]
@[go_sem] theorem r_slices_EqualFunc_Sapi_Value_Sapi_Value_api_Value_api_Value_5_u : Gr X K s r_slices_EqualFunc_Sapi_Value_Sapi_Value_api_Value_api_Value_5 r_slices_EqualFunc_Sapi_Value_Sapi_Value_api_Value_api_Value_5_o [1, 2, 7, 8, 15, 16, 17] := go_region _ _
@[go_sem] def r_slices_EqualFunc_Sapi_Value_Sapi_Value_api_Value_api_Value_6_o : Ops := [
oo 22 (.mv (.t 1)), oo 23 (.mv (.t 7)), oo 24 (.idxA 5 (.t 22) (.t 23)), oo 25 (.load (some 5) (.t 24)), oo 9 (.alloc [(.bool false), (.int .i64 0), (.int .i64 0), .nilS, .nilS]), ow (.store 5 (.t 9) (.t 25))]
def r_slices_EqualFunc_Sapi_Value_Sapi_Value_api_Value_api_Value_6 := rg r_slices_EqualFunc_Sapi_Value_Sapi_Value_api_Value_api_Value_6_o [1, 2, 8, 9, 15, 16, 17]
@[go_sem] theorem r_slices_EqualFunc_Sapi_Value_Sapi_Value_api_Value_api_Value_6_u : Gr X K s r_slices_EqualFunc_Sapi_Value_Sapi_Value_api_Value_api_Value_6 r_slices_EqualFunc_Sapi_Value_Sapi_Value_api_Value_api_Value_6_o [1, 2, 8, 9, 15, 16, 17] := go_region _ _
@[go_sem] def r_slices_EqualFunc_Sapi_Value_Sapi_Value_api_Value_api_Value_7_o : Ops := [
oo 26 (.mv (.t 2)), oo 27 (.load (some 5) (.t 8)), oo 28 (.load (some 5) (.t 9)), oo 29 (.callv false (.t 26) [(.t 27), (.t 28)]), oo 30 (.un .not (.t 29))]
def r_slices_EqualFunc_Sapi_Value_Sapi_Value_api_Value_api_Value_7 := rg r_slices_EqualFunc_Sapi_Value_Sapi_Value_api_Value_api_Value_7_o [1, 2, 15, 16, 17, 30]
@[go_sem] theorem r_slices_EqualFunc_Sapi_Value_Sapi_Value_api_Value_api_Value_7_u : Gr X K s r_slices_EqualFunc_Sapi_Value_Sapi_Value_api_Value_api_Value_7 r_slices_EqualFunc_Sapi_Value_Sapi_Value_api_Value_api_Value_7_o [1, 2, 15, 16, 17, 30] := go_region _ _
@[go_sem] def r_slices_EqualFunc_Sapi_Value_Sapi_Value_api_Value_api_Value_8_o : Ops := [
oo 6 (.asg (.c (.bool false)))]
def r_slices_EqualFunc_Sapi_Value_Sapi_Value_api_Value_api_Value_8 := rg r_slices_EqualFunc_Sapi_Value_Sapi_Value_api_Value_api_Value_8_o [6]
@[go_sem] theorem r_slices_EqualFunc_Sapi_Value_Sapi_Value_api_Value_api_Value_8_u : Gr X K s r_slices_EqualFunc_Sapi_Value_Sapi_Value_api_Value_api_Value_8 r_slices_EqualFunc_Sapi_Value_Sapi_Value_api_Value_api_Value_8_o [6] := go_region _ _
@[go_sem] def r_slices_EqualFunc_Sapi_Value_Sapi_Value_api_Value_api_Value_9_o : Ops := [
oo 31 (.bin .add (.t 17) (ci 1)), oo 17 (.mv (.t 31))]
def r_slices_EqualFunc_Sapi_Value_Sapi_Value_api_Value_api_Value_9 := rg r_slices_EqualFunc_Sapi_Value_Sapi_Value_api_Value_api_Value_9_o [1, 2, 15, 16, 17]
@[go_sem] theorem r_slices_EqualFunc_Sapi_Value_Sapi_Value_api_Value_api_Value_9_u : Gr X K s r_slices_EqualFunc_Sapi_Value_Sapi_Value_api_Value_api_Value_9 r_slices_EqualFunc_Sapi_Value_Sapi_Value_api_Value_api_Value_9_o [1, 2, 15, 16, 17] := go_region _ _
def b_slices_EqualFunc_Sapi_Value_Sapi_Value_api_Value_api_Value_10 : ICode := (.seq r_slices_EqualFunc_Sapi_Value_Sapi_Value_api_Value_api_Value_4 (.seq (.cond (.t 18) .skip (.exit 0)) (.seq (.block 1 (.seq (.seq (.free 8) r_slices_EqualFunc_Sapi_Value_Sapi_Value_api_Value_api_Value_5) (.seq (.seq (.free 9) r_slices_EqualFunc_Sapi_Value_Sapi_Value_api_Value_api_Value_6) (.seq r_slices_EqualFunc_Sapi_Value_Sapi_Value_api_Value_api_Value_7 (.cond (.t 30) (.seq r_slices_EqualFunc_Sapi_Value_Sapi_Value_api_Value_api_Value_8 .ret) .skip))))) r_slices_EqualFunc_Sapi_Value_Sapi_Value_api_Value_api_Value_9)))
@[go_sem] theorem b_slices_EqualFunc_Sapi_Value_Sapi_Value_api_Value_api_Value_10_u : Gn X K s b_slices_EqualFunc_Sapi_Value_Sapi_Value_api_Value_api_Value_10 (.seq r_slices_EqualFunc_Sapi_Value_Sapi_Value_api_Value_api_Value_4 (.seq (.cond (.t 18) .skip (.exit 0)) (.seq (.block 1 (.seq (.seq (.free 8) r_slices_EqualFunc_Sapi_Value_Sapi_Value_api_Value_api_Value_5) (.seq (.seq (.free 9) r_slices_EqualFunc_Sapi_Value_Sapi_Value_api_Value_api_Value_6) (.seq r_slices_EqualFunc_Sapi_Value_Sapi_Value_api_Value_api_Value_7 (.cond (.t 30) (.seq r_slices_EqualFunc_Sapi_Value_Sapi_Value_api_Value_api_Value_8 .ret) .skip))))) r_slices_EqualFunc_Sapi_Value_Sapi_Value_api_Value_api_Value_9))) := rfl
@[go_sem] def r_slices_EqualFunc_Sapi_Value_Sapi_Value_api_Value_api_Value_11_o : Ops := [
oo 6 (.asg (.c (.bool true)))]
def r_slices_EqualFunc_Sapi_Value_Sapi_Value_api_Value_api_Value_11 := rg r_slices_EqualFunc_Sapi_Value_Sapi_Value_api_Value_api_Value_11_o [6]
@[go_sem] theorem r_slices_EqualFunc_Sapi_Value_Sapi_Value_api_Value_api_Value_11_u : Gr X K s r_slices_EqualFunc_Sapi_Value_Sapi_Value_api_Value_api_Value_11 r_slices_EqualFunc_Sapi_Value_Sapi_Value_api_Value_api_Value_11_o [6] := go_region _ _
def c_slices_EqualFunc_Sapi_Value_Sapi_Value_api_Value_api_Value : ICode := (.seq r_slices_EqualFunc_Sapi_Value_Sapi_Value_api_Value_api_Value_0 (.seq r_slices_EqualFunc_Sapi_Value_Sapi_Value_api_Value_api_Value_1 (.cond (.t 14) (.seq r_slices_EqualFunc_Sapi_Value_Sapi_Value_api_Value_api_Value_2 .ret) (.seq (.seq r_slices_EqualFunc_Sapi_Value_Sapi_Value_api_Value_api_Value_3 (.block 0 (.loop b_slices_EqualFunc_Sapi_Value_Sapi_Value_api_Value_api_Value_10))) (.seq r_slices_EqualFunc_Sapi_Value_Sapi_Value_api_Value_api_Value_11 .ret)))))
def i_slices_EqualFunc_Sapi_Value_Sapi_Value_api_Value_api_Value : IFunc := ⟨3, [.t 6], c_slices_EqualFunc_Sapi_Value_Sapi_Value_api_Value_api_Value⟩
def a_slices_EqualFunc_Sapi_Value_Sapi_Value_api_Value_api_Value : Advice := ⟨[], [(10, [6]), (9, [1, 2, 15, 16, 17]), (8, [6]), (7, [1, 2, 15, 16, 17, 30]), (6, [1, 2, 8, 9, 15, 16, 17]), (5, [1, 2, 7, 8, 15, 16, 17]), (4, [1, 2, 15, 16, 17, 18]), (3, [1, 2, 15, 16, 17]), (2, [6]), (1, [0, 1, 2, 14]), (0, [0, 1, 2])], [], [(5, [8]), (6, [9])], []⟩
/-! ingot/value.Same$1 -/
@[go_sem] def r_value_Same_1_0_o : Ops := [
oo 3 (.box 5 (.t 0)), oo 4 (.box 5 (.t 1)), oo 5 (.asg (.c (.bool false)))]
def r_value_Same_1_0 := rg r_value_Same_1_0_o [2, 3, 4]
@[go_sem] theorem r_value_Same_1_0_u : Gr X K s r_value_Same_1_0 r_value_Same_1_0_o [2, 3, 4] := go_region _ _
@[go_sem] def r_value_Same_1_1_o : Ops := [
oo 6 (.load (some 6) (.t 2)), oo 7 (.load (some 5) (.t 3)), oo 8 (.load (some 5) (.t 4)), oo 9 (.call false n_value_Same [(.t 6), (.t 7), (.t 8)]), oo 5 (.asg (.t 9))]
def r_value_Same_1_1 := rg r_value_Same_1_1_o [5]
@[go_sem] theorem r_value_Same_1_1_u : Gr X K s r_value_Same_1_1 r_value_Same_1_1_o [5] := go_region _ _
def c_value_Same_1 : ICode := (.seq r_value_Same_1_0 (.seq r_value_Same_1_1 .ret))
def i_value_Same_1 : IFunc := ⟨3, [.t 5], c_value_Same_1⟩
def a_value_Same_1 : Advice := ⟨[], [(1, [5]), (0, [2, 3, 4])], [], [], []⟩
/-! bytes.Equal -/
@[go_sem] def r_bytes_Equal_0_o : Ops := [
oo 4 (.asg (.c (.bool false)))]
def r_bytes_Equal_0 := rg r_bytes_Equal_0_o [0, 1]
@[go_sem] theorem r_bytes_Equal_0_u : Gr X K s r_bytes_Equal_0 r_bytes_Equal_0_o [0, 1] := go_region _ _
@[go_sem] def r_bytes_Equal_1_o : Ops := [
oo 5 (.mv (.t 0)), oo 6 (.b2s (.t 5)), oo 7 (.mv (.t 1)), oo 8 (.b2s (.t 7)), oo 9 (.bin .eql (.t 6) (.t 8)), oo 4 (.asg (.t 9))]
def r_bytes_Equal_1 := rg r_bytes_Equal_1_o [4]
@[go_sem] theorem r_bytes_Equal_1_u : Gr X K s r_bytes_Equal_1 r_bytes_Equal_1_o [4] := go_region _ _
def c_bytes_Equal : ICode := (.seq r_bytes_Equal_0 (.seq r_bytes_Equal_1 .ret))
def i_bytes_Equal : IFunc := ⟨2, [.t 4], c_bytes_Equal⟩
def a_bytes_Equal : Advice := ⟨[], [(1, [4]), (0, [0, 1])], [], [], []⟩
/-! ingot/value.Same -/
@[go_sem] def r_value_Same_0_o : Ops := [
oo 3 (.box 6 (.t 0)), oo 4 (.box 5 (.t 1)), oo 5 (.box 5 (.t 2)), oo 6 (.asg (.c (.bool false)))]
def r_value_Same_0 := rg r_value_Same_0_o [3, 4, 5]
@[go_sem] theorem r_value_Same_0_u : Gr X K s r_value_Same_0 r_value_Same_0_o [3, 4, 5] := go_region _ _
@[go_sem] def r_value_Same_1_o : Ops := [
oo 7 (.fieldA 0 (.t 4)), oo 8 (.load none (.t 7)), oo 9 (.fieldA 0 (.t 5)), oo 10 (.load none (.t 9)), oo 11 (.eqn false .bool (.t 8) (.t 10)), oo 12 (.mv (.t 11)), og 13 12 true (.fieldA 1 (.t 4)), og 14 12 true (.load none (.t 13)), og 15 12 true (.fieldA 1 (.t 5)), og 16 12 true (.load none (.t 15)), og 17 12 true (.bin .eql (.t 14) (.t 16)), oo 18 (.pick (.t 12) (.t 17) (.c (.bool false))), oo 19 (.mv (.t 18)), og 20 19 true (.fieldA 2 (.t 4)), og 21 19 true (.load none (.t 20)), og 22 19 true (.fieldA 2 (.t 5)), og 23 19 true (.load none (.t 22)), og 24 19 true (.bin .eql (.t 21) (.t 23)), oo 25 (.pick (.t 19) (.t 24) (.c (.bool false))), oo 26 (.mv (.t 25)), og 27 26 true (.fieldA 3 (.t 4)), og 28 26 true (.load none (.t 27)), og 29 26 true (.fieldA 3 (.t 5)), og 30 26 true (.load none (.t 29)), og 31 26 true (.call false n_bytes_Equal [(.t 28), (.t 30)]), oo 32 (.pick (.t 26) (.t 31) (.c (.bool false))), oo 33 (.mv (.t 32)), og 34 33 true (.fieldA 4 (.t 4)), og 35 33 true (.load none (.t 34)), og 36 33 true (.fieldA 4 (.t 5)), og 37 33 true (.load none (.t 36)), og 38 33 true (.mkF n_value_Same_1 [] [(.t 3)]), og 39 33 true (.call false n_slices_EqualFunc_Sapi_Value_Sapi_Value_api_Value_api_Value [(.t 35), (.t 37), (.t 38)]), oo 40 (.pick (.t 33) (.t 39) (.c (.bool false))), oo 6 (.asg (.t 40))]
def r_value_Same_1 := rg r_value_Same_1_o [6]
@[go_sem] theorem r_value_Same_1_u : Gr X K s r_value_Same_1 r_value_Same_1_o [6] := go_region _ _
def c_value_Same : ICode := (.seq r_value_Same_0 (.seq r_value_Same_1 .ret))
def i_value_Same : IFunc := ⟨3, [.t 6], c_value_Same⟩
def a_value_Same : Advice := ⟨[], [(1, [6]), (0, [3, 4, 5])], [], [], []⟩
/-! ingot/value.Size -/
@[go_sem] def r_value_Size_0_o : Ops := [
oo 2 (.box 6 (.t 0)), oo 3 (.box 5 (.t 1)), oo 4 (.asg (ci 0))]
def r_value_Size_0 := rg r_value_Size_0_o [2, 3]
@[go_sem] theorem r_value_Size_0_u : Gr X K s r_value_Size_0 r_value_Size_0_o [2, 3] := go_region _ _
@[go_sem] def r_value_Size_1_o : Ops := [
oo 5 (.asg (ci 1))]
def r_value_Size_1 := rg r_value_Size_1_o [2, 3, 5]
@[go_sem] theorem r_value_Size_1_u : Gr X K s r_value_Size_1 r_value_Size_1_o [2, 3, 5] := go_region _ _
@[go_sem] def r_value_Size_2_o : Ops := [
oo 11 (.fieldA 0 (.t 3)), oo 12 (.load none (.t 11)), oo 10 (.asg (.t 12))]
def r_value_Size_2 := rg r_value_Size_2_o [2, 3, 5, 10]
@[go_sem] theorem r_value_Size_2_u : Gr X K s r_value_Size_2 r_value_Size_2_o [2, 3, 5, 10] := go_region _ _
@[go_sem] def r_value_Size_3_o : Ops := [
oo 13 (.mv (.t 5)), oo 4 (.asg (.t 13))]
def r_value_Size_3 := rg r_value_Size_3_o [4]
@[go_sem] theorem r_value_Size_3_u : Gr X K s r_value_Size_3 r_value_Size_3_o [4] := go_region _ _
@[go_sem] def r_value_Size_4_o : Ops := [
oo 15 (.fieldA 0 (.t 2)), oo 16 (.load none (.t 15)), oo 17 (.call false n_value_text [(.t 16)]), oo 14 (.asg (.t 17))]
def r_value_Size_4 := rg r_value_Size_4_o [2, 3, 5, 14]
@[go_sem] theorem r_value_Size_4_u : Gr X K s r_value_Size_4 r_value_Size_4_o [2, 3, 5, 14] := go_region _ _
@[go_sem] def r_value_Size_5_o : Ops := [
oo 18 (.mv (.t 5)), oo 19 (.fieldA 3 (.t 3)), oo 20 (.load none (.t 19)), oo 21 (.len false (.t 20)), oo 22 (.bin .add (.t 18) (.t 21)), oo 4 (.asg (.t 22))]
def r_value_Size_5 := rg r_value_Size_5_o [4]
@[go_sem] theorem r_value_Size_5_u : Gr X K s r_value_Size_5 r_value_Size_5_o [4] := go_region _ _
@[go_sem] def r_value_Size_6_o : Ops := [
oo 24 (.fieldA 0 (.t 2)), oo 25 (.load none (.t 24)), oo 26 (.bin .eql (.t 25) (ci 9)), oo 23 (.asg (.t 26))]
def r_value_Size_6 := rg r_value_Size_6_o [2, 3, 5, 23]
@[go_sem] theorem r_value_Size_6_u : Gr X K s r_value_Size_6 r_value_Size_6_o [2, 3, 5, 23] := go_region _ _
@[go_sem] def r_value_Size_7_o : Ops := [
oo 27 (.mv (.t 5)), oo 28 (.bin .add (.t 27) (ci 12)), oo 4 (.asg (.t 28))]
def r_value_Size_7 := rg r_value_Size_7_o [4]
@[go_sem] theorem r_value_Size_7_u : Gr X K s r_value_Size_7 r_value_Size_7_o [4] := go_region _ _
@[go_sem] def r_value_Size_8_o : Ops := [
oo 30 (.fieldA 0 (.t 2)), oo 31 (.load none (.t 30)), oo 32 (.call false n_types_Leaf [(.t 31)]), oo 29 (.asg (.t 32))]
def r_value_Size_8 := rg r_value_Size_8_o [2, 3, 5, 29]
@[go_sem] theorem r_value_Size_8_u : Gr X K s r_value_Size_8 r_value_Size_8_o [2, 3, 5, 29] := go_region _ _
@[go_sem] def r_value_Size_9_o : Ops := [
oo 33 (.mv (.t 5)), oo 34 (.bin .add (.t 33) (ci 8)), oo 4 (.asg (.t 34))]
def r_value_Size_9 := rg r_value_Size_9_o [4]
@[go_sem] theorem r_value_Size_9_u : Gr X K s r_value_Size_9 r_value_Size_9_o [4] := go_region _ _
@[go_sem] def r_value_Size_10_o : Ops := [
oo 35 (.fieldA 4 (.t 3)), oo 36 (.load none (.t 35)), oo 37 (.len false (.t 36)), oo 38 (.mv (ci 0))]
def r_value_Size_10 := rg r_value_Size_10_o [2, 3, 5, 36, 37, 38]
@[go_sem] theorem r_value_Size_10_u : Gr X K s r_value_Size_10 r_value_Size_10_o [2, 3, 5, 36, 37, 38] := go_region _ _
@[go_sem] def r_value_Size_11_o : Ops := [
oo 39 (.bin .lss (.t 38) (.t 37))]
def r_value_Size_11 := rg r_value_Size_11_o [2, 3, 5, 36, 37, 38, 39]
@[go_sem] theorem r_value_Size_11_u : Gr X K s r_value_Size_11 r_value_Size_11_o [2, 3, 5, 36, 37, 38, 39] := go_region _ _
@[go_sem] def r_value_Size_12_o : Ops := [
oo 40 (.mv (.t 38)), oo 41 (.idxA 5 (.t 36) (.t 38)), oo 42 (.load (some 5) (.t 41)), oo 7 (.alloc [(.bool false), (.int .i64 0), (.int .i64 0), .nilS, .nilS]), oo 6 (.asg (.t 40)), ow (.store 5 (.t 7) (.t 42))]
def r_value_Size_12 := rg r_value_Size_12_o [2, 3, 5, 6, 7, 36, 37, 38]
@[go_sem] theorem r_value_Size_12_u : Gr X K s r_value_Size_12 r_value_Size_12_o [2, 3, 5, 6, 7, 36, 37, 38] := go_region _ _
@[go_sem] def r_value_Size_13_o : Ops := [
oo 44 (.load (some 6) (.t 2)), oo 45 (.load (some 5) (.t 3)), oo 46 (.mv (.t 6)), oo 47 (.call false n_value_kid [(.t 44), (.t 45), (.t 46)]), oo 43 (.mv (.t 47)), oo 48 (.ext (.t 43) 0), oo 49 (.ext (.t 43) 1), oo 8 (.alloc [(.int .i64 0), .nilS, .nilS, (.int .i64 0), (.int .i64 0), (.int .i64 0)]), ow (.store 6 (.t 8) (.t 48)), oo 9 (.asg (.t 49))]
def r_value_Size_13 := rg r_value_Size_13_o [2, 3, 5, 7, 8, 9, 36, 37, 38]
@[go_sem] theorem r_value_Size_13_u : Gr X K s r_value_Size_13 r_value_Size_13_o [2, 3, 5, 7, 8, 9, 36, 37, 38] := go_region _ _
@[go_sem] def r_value_Size_14_o : Ops := [
oo 50 (.mv (.t 9)), oo 51 (.un .not (.t 50))]
def r_value_Size_14 := rg r_value_Size_14_o [2, 3, 5, 7, 8, 36, 37, 38, 51]
@[go_sem] theorem r_value_Size_14_u : Gr X K s r_value_Size_14 r_value_Size_14_o [2, 3, 5, 7, 8, 36, 37, 38, 51] := go_region _ _
@[go_sem] def r_value_Size_15_o : Ops := [
oo 52 (.mv (.t 5)), oo 53 (.load (some 6) (.t 8)), oo 54 (.load (some 5) (.t 7)), oo 55 (.call false n_value_Size [(.t 53), (.t 54)]), oo 56 (.bin .add (.t 52) (.t 55)), oo 5 (.asg (.t 56))]
def r_value_Size_15 := rg r_value_Size_15_o [2, 3, 5, 36, 37, 38]
@[go_sem] theorem r_value_Size_15_u : Gr X K s r_value_Size_15 r_value_Size_15_o [2, 3, 5, 36, 37, 38] := go_region _ _
@[go_sem] def r_value_Size_16_o : Ops := [
oo 57 (.bin .add (.t 38) (ci 1)), oo 38 (.mv (.t 57))]
def r_value_Size_16 := rg r_value_Size_16_o [2, 3, 5, 36, 37, 38]
@[go_sem] theorem r_value_Size_16_u : Gr X K s r_value_Size_16 r_value_Size_16_o [2, 3, 5, 36, 37, 38] := go_region _ _
def b_value_Size_17 : ICode := (.seq r_value_Size_11 (.seq (.cond (.t 39) .skip (.exit 1)) (.seq (.block 2 (.seq (.seq (.free 7) r_value_Size_12) (.seq (.seq (.free 8) r_value_Size_13) (.seq (.seq r_value_Size_14 (.cond (.t 51) (.exit 1) .skip)) r_value_Size_15)))) r_value_Size_16)))
@[go_sem] theorem b_value_Size_17_u : Gn X K s b_value_Size_17 (.seq r_value_Size_11 (.seq (.cond (.t 39) .skip (.exit 1)) (.seq (.block 2 (.seq (.seq (.free 7) r_value_Size_12) (.seq (.seq (.free 8) r_value_Size_13) (.seq (.seq r_value_Size_14 (.cond (.t 51) (.exit 1) .skip)) r_value_Size_15)))) r_value_Size_16))) := rfl
@[go_sem] def r_value_Size_18_o : Ops := [
oo 58 (.mv (.t 5)), oo 4 (.asg (.t 58))]
def r_value_Size_18 := rg r_value_Size_18_o [4]
@[go_sem] theorem r_value_Size_18_u : Gr X K s r_value_Size_18 r_value_Size_18_o [4] := go_region _ _
def c_value_Size : ICode := (.seq r_value_Size_0 (.seq r_value_Size_1 (.seq (.block 0 (.seq r_value_Size_2 (.cond (.t 10) (.seq r_value_Size_3 .ret) (.seq r_value_Size_4 (.cond (.t 14) (.seq r_value_Size_5 .ret) (.seq r_value_Size_6 (.cond (.t 23) (.seq r_value_Size_7 .ret) (.seq r_value_Size_8 (.cond (.t 29) (.seq r_value_Size_9 .ret) .skip))))))))) (.seq (.seq r_value_Size_10 (.block 1 (.loop b_value_Size_17))) (.seq r_value_Size_18 .ret)))))
def i_value_Size : IFunc := ⟨2, [.t 4], c_value_Size⟩
def a_value_Size : Advice := ⟨[], [(17, [4]), (16, [2, 3, 5, 36, 37, 38]), (15, [2, 3, 5, 36, 37, 38]), (14, [2, 3, 5, 7, 8, 36, 37, 38, 51]), (13, [2, 3, 5, 7, 8, 9, 36, 37, 38]), (12, [2, 3, 5, 6, 7, 36, 37, 38]), (11, [2, 3, 5, 36, 37, 38, 39]), (10, [2, 3, 5, 36, 37, 38]), (3, [4]), (5, [4]), (7, [4]), (9, [4]), (8, [2, 3, 5, 29]), (6, [2, 3, 5, 23]), (4, [2, 3, 5, 14]), (2, [2, 3, 5, 10]), (1, [2, 3, 5]), (0, [2, 3])], [], [(12, [7]), (13, [8])], []⟩
/-! ingot/value.leaf -/
@[go_sem] def r_value_leaf_0_o : Ops := [
oo 2 (.box 6 (.t 0)), oo 3 (.box 5 (.t 1)), oo 4 (.asg (.c (.str [])))]
def r_value_leaf_0 := rg r_value_leaf_0_o [2, 3]
@[go_sem] theorem r_value_leaf_0_u : Gr X K s r_value_leaf_0 r_value_leaf_0_o [2, 3] := go_region _ _
@[go_sem] def r_value_leaf_1_o : Ops := [
oo 8 (.fieldA 0 (.t 2)), oo 9 (.load none (.t 8))]
def r_value_leaf_1 := rg r_value_leaf_1_o [2, 3, 9]
@[go_sem] theorem r_value_leaf_1_u : Gr X K s r_value_leaf_1 r_value_leaf_1_o [2, 3, 9] := go_region _ _
@[go_sem] def r_value_leaf_2_o : Ops := [
oo 11 (.bin .eql (.t 9) (ci 0)), oo 10 (.asg (.t 11))]
def r_value_leaf_2 := rg r_value_leaf_2_o [2, 3, 9, 10]
@[go_sem] theorem r_value_leaf_2_u : Gr X K s r_value_leaf_2 r_value_leaf_2_o [2, 3, 9, 10] := go_region _ _
@[go_sem] def r_value_leaf_3_o : Ops := [
oo 12 (.fieldA 1 (.t 3)), oo 13 (.load none (.t 12)), oo 14 (.bin .neq (.t 13) (ci 0)), oo 15 (.call false n_strconv_FormatBool [(.t 14)]), oo 4 (.asg (.t 15))]
def r_value_leaf_3 := rg r_value_leaf_3_o [4]
@[go_sem] theorem r_value_leaf_3_u : Gr X K s r_value_leaf_3 r_value_leaf_3_o [4] := go_region _ _
@[go_sem] def r_value_leaf_4_o : Ops := [
oo 17 (.bin .eql (.t 9) (ci 14)), oo 16 (.asg (.t 17))]
def r_value_leaf_4 := rg r_value_leaf_4_o [2, 3, 9, 16]
@[go_sem] theorem r_value_leaf_4_u : Gr X K s r_value_leaf_4 r_value_leaf_4_o [2, 3, 9, 16] := go_region _ _
@[go_sem] def r_value_leaf_5_o : Ops := [
oo 18 (.fieldA 1 (.t 3)), oo 19 (.load none (.t 18)), oo 20 (.fieldA 5 (.t 2)), oo 21 (.load none (.t 20)), oo 22 (.call false n_deci_Text [(.t 19), (.t 21)]), oo 4 (.asg (.t 22))]
def r_value_leaf_5 := rg r_value_leaf_5_o [4]
@[go_sem] theorem r_value_leaf_5_u : Gr X K s r_value_leaf_5 r_value_leaf_5_o [4] := go_region _ _
@[go_sem] def r_value_leaf_6_o : Ops := [
oo 24 (.bin .eql (.t 9) (ci 15)), oo 23 (.asg (.t 24))]
def r_value_leaf_6 := rg r_value_leaf_6_o [3, 9, 23]
@[go_sem] theorem r_value_leaf_6_u : Gr X K s r_value_leaf_6 r_value_leaf_6_o [3, 9, 23] := go_region _ _
@[go_sem] def r_value_leaf_7_o : Ops := [
oo 26 (.fieldA 1 (.t 3)), oo 27 (.load none (.t 26)), oo 28 (.bin .mul (.t 27) (ci 86400)), oo 29 (.call false n_stamp_Text [(.t 28), (ci 0)]), oo 30 (.call false n_strings_Cut [(.t 29), (.c (.str [32]))]), oo 25 (.mv (.t 30)), oo 31 (.ext (.t 25) 0), oo 32 (.ext (.t 25) 1), oo 33 (.ext (.t 25) 2), oo 5 (.asg (.t 31)), oo 6 (.asg (.t 32)), oo 7 (.asg (.t 33))]
def r_value_leaf_7 := rg r_value_leaf_7_o [5]
@[go_sem] theorem r_value_leaf_7_u : Gr X K s r_value_leaf_7 r_value_leaf_7_o [5] := go_region _ _
@[go_sem] def r_value_leaf_8_o : Ops := [
oo 34 (.mv (.t 5)), oo 4 (.asg (.t 34))]
def r_value_leaf_8 := rg r_value_leaf_8_o [4]
@[go_sem] theorem r_value_leaf_8_u : Gr X K s r_value_leaf_8 r_value_leaf_8_o [4] := go_region _ _
@[go_sem] def r_value_leaf_9_o : Ops := [
oo 36 (.bin .eql (.t 9) (ci 9)), oo 35 (.asg (.t 36))]
def r_value_leaf_9 := rg r_value_leaf_9_o [3, 9, 35]
@[go_sem] theorem r_value_leaf_9_u : Gr X K s r_value_leaf_9 r_value_leaf_9_o [3, 9, 35] := go_region _ _
@[go_sem] def r_value_leaf_10_o : Ops := [
oo 37 (.fieldA 1 (.t 3)), oo 38 (.load none (.t 37)), oo 39 (.fieldA 2 (.t 3)), oo 40 (.load none (.t 39)), oo 41 (.call false n_stamp_Text [(.t 38), (.t 40)]), oo 4 (.asg (.t 41))]
def r_value_leaf_10 := rg r_value_leaf_10_o [4]
@[go_sem] theorem r_value_leaf_10_u : Gr X K s r_value_leaf_10 r_value_leaf_10_o [4] := go_region _ _
@[go_sem] def r_value_leaf_11_o : Ops := [
oo 43 (.bin .eql (.t 9) (ci 8)), oo 42 (.asg (.t 43))]
def r_value_leaf_11 := rg r_value_leaf_11_o [3, 9, 42]
@[go_sem] theorem r_value_leaf_11_u : Gr X K s r_value_leaf_11 r_value_leaf_11_o [3, 9, 42] := go_region _ _
@[go_sem] def r_value_leaf_12_o : Ops := [
oo 44 (.fieldA 3 (.t 3)), oo 45 (.load none (.t 44)), oo 46 (.call false n_value_hex [(.t 45)]), oo 47 (.bin .add (.c (.str [48, 120])) (.t 46)), oo 4 (.asg (.t 47))]
def r_value_leaf_12 := rg r_value_leaf_12_o [4]
@[go_sem] theorem r_value_leaf_12_u : Gr X K s r_value_leaf_12 r_value_leaf_12_o [4] := go_region _ _
@[go_sem] def r_value_leaf_13_o : Ops := [
oo 49 (.bin .eql (.t 9) (ci 7)), oo 48 (.asg (.t 49))]
def r_value_leaf_13 := rg r_value_leaf_13_o [3, 9, 48]
@[go_sem] theorem r_value_leaf_13_u : Gr X K s r_value_leaf_13 r_value_leaf_13_o [3, 9, 48] := go_region _ _
@[go_sem] def r_value_leaf_14_o : Ops := [
oo 50 (.bin .eql (.t 9) (ci 16)), oo 48 (.asg (.t 50))]
def r_value_leaf_14 := rg r_value_leaf_14_o [3, 9, 48]
@[go_sem] theorem r_value_leaf_14_u : Gr X K s r_value_leaf_14 r_value_leaf_14_o [3, 9, 48] := go_region _ _
@[go_sem] def r_value_leaf_15_o : Ops := [
oo 51 (.bin .eql (.t 9) (ci 17)), oo 48 (.asg (.t 51))]
def r_value_leaf_15 := rg r_value_leaf_15_o [3, 48]
@[go_sem] theorem r_value_leaf_15_u : Gr X K s r_value_leaf_15 r_value_leaf_15_o [3, 48] := go_region _ _
@[go_sem] def r_value_leaf_16_o : Ops := [
oo 52 (.fieldA 3 (.t 3)), oo 53 (.load none (.t 52)), oo 54 (.b2s (.t 53)), oo 55 (.bin .add (.c (.str [34])) (.t 54)), oo 56 (.bin .add (.t 55) (.c (.str [34]))), oo 4 (.asg (.t 56))]
def r_value_leaf_16 := rg r_value_leaf_16_o [4]
@[go_sem] theorem r_value_leaf_16_u : Gr X K s r_value_leaf_16 r_value_leaf_16_o [4] := go_region _ _
@[go_sem] def r_value_leaf_17_o : Ops := [
oo 57 (.fieldA 1 (.t 3)), oo 58 (.load none (.t 57)), oo 59 (.call false n_strconv_FormatInt [(.t 58), (ci 10)]), oo 4 (.asg (.t 59))]
def r_value_leaf_17 := rg r_value_leaf_17_o [4]
@[go_sem] theorem r_value_leaf_17_u : Gr X K s r_value_leaf_17 r_value_leaf_17_o [4] := go_region _ _
def c_value_leaf : ICode := (.seq r_value_leaf_0 (.seq (.seq r_value_leaf_1 (.block 0 (.seq r_value_leaf_2 (.cond (.t 10) (.seq r_value_leaf_3 .ret) (.seq r_value_leaf_4 (.cond (.t 16) (.seq r_value_leaf_5 .ret) (.seq r_value_leaf_6 (.cond (.t 23) (.seq r_value_leaf_7 (.seq r_value_leaf_8 .ret)) (.seq r_value_leaf_9 (.cond (.t 35) (.seq r_value_leaf_10 .ret) (.seq r_value_leaf_11 (.cond (.t 42) (.seq r_value_leaf_12 .ret) (.seq (.seq r_value_leaf_13 (.cond (.t 48) .skip (.seq r_value_leaf_14 (.cond (.t 48) .skip r_value_leaf_15)))) (.cond (.t 48) (.seq r_value_leaf_16 .ret) .skip)))))))))))))) (.seq r_value_leaf_17 .ret)))
def i_value_leaf : IFunc := ⟨2, [.t 4], c_value_leaf⟩
def a_value_leaf : Advice := ⟨[], [(17, [4]), (3, [4]), (5, [4]), (8, [4]), (7, [5]), (10, [4]), (12, [4]), (16, [4]), (15, [3, 48]), (14, [3, 9, 48]), (13, [3, 9, 48]), (11, [3, 9, 42]), (9, [3, 9, 35]), (6, [3, 9, 23]), (4, [2, 3, 9, 16]), (2, [2, 3, 9, 10]), (1, [2, 3, 9]), (0, [2, 3])], [], [], []⟩
/-! ingot/value.Text -/
@[go_sem] def r_value_Text_0_o : Ops := [
oo 2 (.box 6 (.t 0)), oo 3 (.box 5 (.t 1)), oo 4 (.asg (.c (.str [])))]
def r_value_Text_0 := rg r_value_Text_0_o [2, 3]
@[go_sem] theorem r_value_Text_0_u : Gr X K s r_value_Text_0 r_value_Text_0_o [2, 3] := go_region _ _
@[go_sem] def r_value_Text_1_o : Ops := [
oo 12 (.fieldA 0 (.t 3)), oo 13 (.load none (.t 12)), oo 11 (.asg (.t 13))]
def r_value_Text_1 := rg r_value_Text_1_o [2, 3, 11]
@[go_sem] theorem r_value_Text_1_u : Gr X K s r_value_Text_1 r_value_Text_1_o [2, 3, 11] := go_region _ _
@[go_sem] def r_value_Text_2_o : Ops := [
oo 4 (.asg (.c (.str [110, 117, 108, 108])))]
def r_value_Text_2 := rg r_value_Text_2_o [4]
@[go_sem] theorem r_value_Text_2_u : Gr X K s r_value_Text_2 r_value_Text_2_o [4] := go_region _ _
@[go_sem] def r_value_Text_3_o : Ops := [
oo 15 (.fieldA 0 (.t 2)), oo 16 (.load none (.t 15)), oo 17 (.call false n_types_Leaf [(.t 16)]), oo 14 (.asg (.t 17))]
def r_value_Text_3 := rg r_value_Text_3_o [2, 3, 14]
@[go_sem] theorem r_value_Text_3_u : Gr X K s r_value_Text_3 r_value_Text_3_o [2, 3, 14] := go_region _ _
@[go_sem] def r_value_Text_4_o : Ops := [
oo 18 (.load (some 6) (.t 2)), oo 19 (.load (some 5) (.t 3)), oo 20 (.call false n_value_leaf [(.t 18), (.t 19)]), oo 4 (.asg (.t 20))]
def r_value_Text_4 := rg r_value_Text_4_o [4]
@[go_sem] theorem r_value_Text_4_u : Gr X K s r_value_Text_4 r_value_Text_4_o [4] := go_region _ _
@[go_sem] def r_value_Text_5_o : Ops := [
oo 5 (.asg (.c .nilS))]
def r_value_Text_5 := rg r_value_Text_5_o [2, 3, 5]
@[go_sem] theorem r_value_Text_5_u : Gr X K s r_value_Text_5 r_value_Text_5_o [2, 3, 5] := go_region _ _
@[go_sem] def r_value_Text_6_o : Ops := [
oo 21 (.fieldA 4 (.t 3)), oo 22 (.load none (.t 21)), oo 23 (.len false (.t 22)), oo 24 (.mv (ci 0))]
def r_value_Text_6 := rg r_value_Text_6_o [2, 3, 5, 22, 23, 24]
@[go_sem] theorem r_value_Text_6_u : Gr X K s r_value_Text_6 r_value_Text_6_o [2, 3, 5, 22, 23, 24] := go_region _ _
@[go_sem] def r_value_Text_7_o : Ops := [
oo 25 (.bin .lss (.t 24) (.t 23))]
def r_value_Text_7 := rg r_value_Text_7_o [2, 3, 5, 22, 23, 24, 25]
@[go_sem] theorem r_value_Text_7_u : Gr X K s r_value_Text_7 r_value_Text_7_o [2, 3, 5, 22, 23, 24, 25] := go_region _ _
@[go_sem] def r_value_Text_8_o : Ops := [
oo 26 (.mv (.t 24)), oo 27 (.idxA 5 (.t 22) (.t 24)), oo 28 (.load (some 5) (.t 27)), oo 7 (.alloc [(.bool false), (.int .i64 0), (.int .i64 0), .nilS, .nilS]), oo 6 (.asg (.t 26)), ow (.store 5 (.t 7) (.t 28))]
def r_value_Text_8 := rg r_value_Text_8_o [2, 3, 5, 6, 7, 22, 23, 24]
@[go_sem] theorem r_value_Text_8_u : Gr X K s r_value_Text_8 r_value_Text_8_o [2, 3, 5, 6, 7, 22, 23, 24] := go_region _ _
@[go_sem] def r_value_Text_9_o : Ops := [
oo 30 (.load (some 6) (.t 2)), oo 31 (.load (some 5) (.t 3)), oo 32 (.mv (.t 6)), oo 33 (.call false n_value_kid [(.t 30), (.t 31), (.t 32)]), oo 29 (.mv (.t 33)), oo 34 (.ext (.t 29) 0), oo 35 (.ext (.t 29) 1), oo 8 (.alloc [(.int .i64 0), .nilS, .nilS, (.int .i64 0), (.int .i64 0), (.int .i64 0)]), ow (.store 6 (.t 8) (.t 34)), oo 9 (.asg (.t 35))]
def r_value_Text_9 := rg r_value_Text_9_o [2, 3, 5, 7, 8, 9, 22, 23, 24]
@[go_sem] theorem r_value_Text_9_u : Gr X K s r_value_Text_9 r_value_Text_9_o [2, 3, 5, 7, 8, 9, 22, 23, 24] := go_region _ _
@[go_sem] def r_value_Text_10_o : Ops := [
oo 36 (.mv (.t 9)), oo 37 (.un .not (.t 36))]
def r_value_Text_10 := rg r_value_Text_10_o [2, 3, 5, 7, 8, 22, 23, 24, 37]
@[go_sem] theorem r_value_Text_10_u : Gr X K s r_value_Text_10 r_value_Text_10_o [2, 3, 5, 7, 8, 22, 23, 24, 37] := go_region _ _
@[go_sem] def r_value_Text_11_o : Ops := [
oo 38 (.mv (.t 5)), oo 39 (.load (some 6) (.t 8)), oo 40 (.load (some 5) (.t 7)), oo 41 (.call false n_value_Text [(.t 39), (.t 40)]), oo 42 (.lit false 1 1 (.str []) [(0, (.t 41))]), oo 43 (.append 1 16 (.t 38) (.t 42)), oo 5 (.asg (.t 43))]
def r_value_Text_11 := rg r_value_Text_11_o [2, 3, 5, 22, 23, 24]
@[go_sem] theorem r_value_Text_11_u : Gr X K s r_value_Text_11 r_value_Text_11_o [2, 3, 5, 22, 23, 24] := go_region _ _
@[go_sem] def r_value_Text_12_o : Ops := [
oo 44 (.bin .add (.t 24) (ci 1)), oo 24 (.mv (.t 44))]
def r_value_Text_12 := rg r_value_Text_12_o [2, 3, 5, 22, 23, 24]
@[go_sem] theorem r_value_Text_12_u : Gr X K s r_value_Text_12 r_value_Text_12_o [2, 3, 5, 22, 23, 24] := go_region _ _
def b_value_Text_13 : ICode := (.seq r_value_Text_7 (.seq (.cond (.t 25) .skip (.exit 1)) (.seq (.block 2 (.seq (.seq (.free 7) r_value_Text_8) (.seq (.seq (.free 8) r_value_Text_9) (.seq (.seq r_value_Text_10 (.cond (.t 37) (.exit 1) .skip)) r_value_Text_11)))) r_value_Text_12)))
@[go_sem] theorem b_value_Text_13_u : Gn X K s b_value_Text_13 (.seq r_value_Text_7 (.seq (.cond (.t 25) .skip (.exit 1)) (.seq (.block 2 (.seq (.seq (.free 7) r_value_Text_8) (.seq (.seq (.free 8) r_value_Text_9) (.seq (.seq r_value_Text_10 (.cond (.t 37) (.exit 1) .skip)) r_value_Text_11)))) r_value_Text_12))) := rfl
@[go_sem] def r_value_Text_14_o : Ops := [
oo 45 (.fieldA 0 (.t 2)), oo 46 (.load none (.t 45))]
def r_value_Text_14 := rg r_value_Text_14_o [3, 5, 46]
@[go_sem] theorem r_value_Text_14_u : Gr X K s r_value_Text_14 r_value_Text_14_o [3, 5, 46] := go_region _ _
@[go_sem] def r_value_Text_15_o : Ops := [
oo 48 (.bin .eql (.t 46) (ci 13)), oo 47 (.asg (.t 48))]
def r_value_Text_15 := rg r_value_Text_15_o [3, 5, 46, 47]
@[go_sem] theorem r_value_Text_15_u : Gr X K s r_value_Text_15 r_value_Text_15_o [3, 5, 46, 47] := go_region _ _
@[go_sem] def r_value_Text_16_o : Ops := [
oo 49 (.fieldA 1 (.t 3)), oo 50 (.load none (.t 49)), oo 51 (.call false n_strconv_FormatInt [(.t 50), (ci 10)]), oo 52 (.bin .add (.t 51) (.c (.str [58]))), oo 53 (.mv (.t 5)), oo 54 (.call false n_strings_Join [(.t 53), (.c (.str [44]))]), oo 55 (.bin .add (.t 52) (.t 54)), oo 4 (.asg (.t 55))]
def r_value_Text_16 := rg r_value_Text_16_o [4]
@[go_sem] theorem r_value_Text_16_u : Gr X K s r_value_Text_16 r_value_Text_16_o [4] := go_region _ _
@[go_sem] def r_value_Text_17_o : Ops := [
oo 57 (.bin .eql (.t 46) (ci 12)), oo 56 (.asg (.t 57))]
def r_value_Text_17 := rg r_value_Text_17_o [5, 46, 56]
@[go_sem] theorem r_value_Text_17_u : Gr X K s r_value_Text_17 r_value_Text_17_o [5, 46, 56] := go_region _ _
@[go_sem] def r_value_Text_18_o : Ops := [
oo 58 (.mv (.t 5)), oo 59 (.call false n_strings_Join [(.t 58), (.c (.str [44]))]), oo 60 (.bin .add (.c (.str [40])) (.t 59)), oo 61 (.bin .add (.t 60) (.c (.str [41]))), oo 4 (.asg (.t 61))]
def r_value_Text_18 := rg r_value_Text_18_o [4]
@[go_sem] theorem r_value_Text_18_u : Gr X K s r_value_Text_18 r_value_Text_18_o [4] := go_region _ _
@[go_sem] def r_value_Text_19_o : Ops := [
oo 63 (.bin .eql (.t 46) (ci 11)), oo 62 (.asg (.t 63))]
def r_value_Text_19 := rg r_value_Text_19_o [5, 62]
@[go_sem] theorem r_value_Text_19_u : Gr X K s r_value_Text_19 r_value_Text_19_o [5, 62] := go_region _ _
@[go_sem] def r_value_Text_20_o : Ops := [
oo 64 (.mv (.t 5)), oo 65 (.len false (.t 64)), oo 66 (.bin .quo (.t 65) (ci 2)), oo 67 (.mv (ci 0))]
def r_value_Text_20 := rg r_value_Text_20_o [5, 66, 67]
@[go_sem] theorem r_value_Text_20_u : Gr X K s r_value_Text_20 r_value_Text_20_o [5, 66, 67] := go_region _ _
@[go_sem] def r_value_Text_21_o : Ops := [
oo 68 (.bin .lss (.t 67) (.t 66))]
def r_value_Text_21 := rg r_value_Text_21_o [5, 66, 67, 68]
@[go_sem] theorem r_value_Text_21_u : Gr X K s r_value_Text_21 r_value_Text_21_o [5, 66, 67, 68] := go_region _ _
@[go_sem] def r_value_Text_22_o : Ops := [
oo 69 (.mv (.t 67)), oo 10 (.asg (.t 69))]
def r_value_Text_22 := rg r_value_Text_22_o [5, 10, 66, 67]
@[go_sem] theorem r_value_Text_22_u : Gr X K s r_value_Text_22 r_value_Text_22_o [5, 10, 66, 67] := go_region _ _
@[go_sem] def r_value_Text_23_o : Ops := [
oo 70 (.mv (.t 5)), oo 71 (.mv (.t 10)), oo 72 (.mv (.t 5)), oo 73 (.mv (.t 10)), oo 74 (.bin .mul (ci 2) (.t 73)), oo 75 (.idxA 1 (.t 72) (.t 74)), oo 76 (.load none (.t 75)), oo 77 (.bin .add (.t 76) (.c (.str [58]))), oo 78 (.mv (.t 5)), oo 79 (.mv (.t 10)), oo 80 (.bin .mul (ci 2) (.t 79)), oo 81 (.bin .add (.t 80) (ci 1)), oo 82 (.idxA 1 (.t 78) (.t 81)), oo 83 (.load none (.t 82)), oo 84 (.bin .add (.t 77) (.t 83)), oo 85 (.idxA 1 (.t 70) (.t 71)), ow (.store 1 (.t 85) (.t 84))]
def r_value_Text_23_n : List (Nat × Nat) := [(0, 1), (0, 2), (1, 2), (0, 3), (1, 3), (2, 3), (0, 4), (1, 4), (2, 4), (0, 5), (1, 5), (0, 6), (1, 6), (0, 7), (1, 7), (0, 8), (1, 8), (2, 8), (3, 8), (4, 8), (5, 8), (6, 8), (7, 8), (0, 9), (1, 9), (2, 9), (3, 9), (4, 9), (5, 9), (6, 9), (7, 9), (8, 9), (0, 10), (1, 10), (2, 10), (3, 10), (4, 10), (5, 10), (6, 10), (7, 10), (8, 10), (0, 11), (1, 11), (2, 11), (3, 11), (4, 11), (5, 11), (6, 11), (7, 11), (8, 11), (0, 12), (1, 12), (2, 12), (3, 12), (4, 12), (5, 12), (6, 12), (7, 12), (0, 13), (1, 13), (2, 13), (3, 13), (4, 13), (5, 13), (6, 13), (7, 13), (0, 14), (1, 14)]
def r_value_Text_23 : ICode := .region r_value_Text_23_o r_value_Text_23_n [5, 66, 67]
@[go_sem] theorem r_value_Text_23_u : go X (.c r_value_Text_23 :: K) s = goRU X [] r_value_Text_23_n r_value_Text_23_o [5, 66, 67] K s := go_regionU' _ _ _ _
@[go_sem] def r_value_Text_24_o : Ops := [
oo 86 (.bin .add (.t 67) (ci 1)), oo 67 (.mv (.t 86))]
def r_value_Text_24 := rg r_value_Text_24_o [5, 66, 67]
@[go_sem] theorem r_value_Text_24_u : Gr X K s r_value_Text_24 r_value_Text_24_o [5, 66, 67] := go_region _ _
def b_value_Text_25 : ICode := (.seq r_value_Text_21 (.seq (.cond (.t 68) .skip (.exit 4)) (.seq (.block 5 (.seq r_value_Text_22 r_value_Text_23)) r_value_Text_24)))
@[go_sem] theorem b_value_Text_25_u : Gn X K s b_value_Text_25 (.seq r_value_Text_21 (.seq (.cond (.t 68) .skip (.exit 4)) (.seq (.block 5 (.seq r_value_Text_22 r_value_Text_23)) r_value_Text_24))) := rfl
@[go_sem] def r_value_Text_26_o : Ops := [
oo 87 (.mv (.t 5)), oo 88 (.mv (.t 5)), oo 89 (.len false (.t 88)), oo 90 (.bin .quo (.t 89) (ci 2)), oo 91 (.slice 1 (.t 87) none (some (.t 90)) none), oo 92 (.call false n_strings_Join [(.t 91), (.c (.str [44]))]), oo 93 (.bin .add (.c (.str [123])) (.t 92)), oo 94 (.bin .add (.t 93) (.c (.str [125]))), oo 4 (.asg (.t 94))]
def r_value_Text_26 := rg r_value_Text_26_o [4]
@[go_sem] theorem r_value_Text_26_u : Gr X K s r_value_Text_26 r_value_Text_26_o [4] := go_region _ _
@[go_sem] def r_value_Text_27_o : Ops := [
oo 95 (.mv (.t 5)), oo 96 (.call false n_strings_Join [(.t 95), (.c (.str [44]))]), oo 97 (.bin .add (.c (.str [91])) (.t 96)), oo 98 (.bin .add (.t 97) (.c (.str [93]))), oo 4 (.asg (.t 98))]
def r_value_Text_27 := rg r_value_Text_27_o [4]
@[go_sem] theorem r_value_Text_27_u : Gr X K s r_value_Text_27 r_value_Text_27_o [4] := go_region _ _
def c_value_Text : ICode := (.seq r_value_Text_0 (.seq (.block 0 (.seq r_value_Text_1 (.cond (.t 11) (.seq r_value_Text_2 .ret) (.seq r_value_Text_3 (.cond (.t 14) (.seq r_value_Text_4 .ret) .skip))))) (.seq r_value_Text_5 (.seq (.seq r_value_Text_6 (.block 1 (.loop b_value_Text_13))) (.seq (.seq r_value_Text_14 (.block 3 (.seq r_value_Text_15 (.cond (.t 47) (.seq (.seq (.demote [5]) r_value_Text_16) .ret) (.seq r_value_Text_17 (.cond (.t 56) (.seq (.seq (.demote [5]) r_value_Text_18) .ret) (.seq r_value_Text_19 (.cond (.t 62) (.seq (.seq r_value_Text_20 (.block 4 (.loop b_value_Text_25))) (.seq r_value_Text_26 .ret)) .skip)))))))) (.seq (.seq (.demote [5]) r_value_Text_27) .ret))))))
def i_value_Text : IFunc := ⟨2, [.t 4], c_value_Text⟩
def a_value_Text : Advice := ⟨[43], [(25, [4]), (15, [4]), (17, [4]), (24, [4]), (23, [5, 66, 67]), (22, [5, 66, 67]), (21, [5, 10, 66, 67]), (20, [5, 66, 67, 68]), (19, [5, 66, 67]), (18, [5, 62]), (16, [5, 46, 56]), (14, [3, 5, 46, 47]), (13, [3, 5, 46]), (12, [2, 3, 5, 22, 23, 24]), (11, [2, 3, 5, 22, 23, 24]), (10, [2, 3, 5, 7, 8, 22, 23, 24, 37]), (9, [2, 3, 5, 7, 8, 9, 22, 23, 24]), (8, [2, 3, 5, 6, 7, 22, 23, 24]), (7, [2, 3, 5, 22, 23, 24, 25]), (6, [2, 3, 5, 22, 23, 24]), (5, [2, 3, 5]), (2, [4]), (4, [4]), (3, [2, 3, 14]), (1, [2, 3, 11]), (0, [2, 3])], [(15, [5]), (17, [5]), (25, [5])], [(8, [7]), (9, [8])], []⟩
/-! ingot/value.kid -/
@[go_sem] def r_value_kid_0_o : Ops := [
oo 3 (.box 6 (.t 0)), oo 4 (.box 5 (.t 1)), oo 6 (.alloc [(.int .i64 0), .nilS, .nilS, (.int .i64 0), (.int .i64 0), (.int .i64 0)]), oo 7 (.asg (.c (.bool false)))]
def r_value_kid_0 := rg r_value_kid_0_o [2, 3, 4, 6]
@[go_sem] theorem r_value_kid_0_u : Gr X K s r_value_kid_0 r_value_kid_0_o [2, 3, 4, 6] := go_region _ _
@[go_sem] def r_value_kid_1_o : Ops := [
oo 8 (.fieldA 0 (.t 3)), oo 9 (.load none (.t 8))]
def r_value_kid_1 := rg r_value_kid_1_o [2, 3, 4, 6, 9]
@[go_sem] theorem r_value_kid_1_u : Gr X K s r_value_kid_1 r_value_kid_1_o [2, 3, 4, 6, 9] := go_region _ _
@[go_sem] def r_value_kid_2_o : Ops := [
oo 11 (.bin .eql (.t 9) (ci 10)), oo 10 (.asg (.t 11))]
def r_value_kid_2 := rg r_value_kid_2_o [2, 3, 4, 6, 9, 10]
@[go_sem] theorem r_value_kid_2_u : Gr X K s r_value_kid_2 r_value_kid_2_o [2, 3, 4, 6, 9, 10] := go_region _ _
@[go_sem] def r_value_kid_3_o : Ops := [
oo 2 (.asg (ci 0))]
def r_value_kid_3 := rg r_value_kid_3_o [2, 3, 6]
@[go_sem] theorem r_value_kid_3_u : Gr X K s r_value_kid_3 r_value_kid_3_o [2, 3, 6] := go_region _ _
@[go_sem] def r_value_kid_4_o : Ops := [
oo 13 (.bin .eql (.t 9) (ci 11)), oo 12 (.asg (.t 13))]
def r_value_kid_4 := rg r_value_kid_4_o [2, 3, 4, 6, 9, 12]
@[go_sem] theorem r_value_kid_4_u : Gr X K s r_value_kid_4 r_value_kid_4_o [2, 3, 4, 6, 9, 12] := go_region _ _
@[go_sem] def r_value_kid_5_o : Ops := [
oo 14 (.mv (.t 2)), oo 15 (.bin .rem (.t 14) (ci 2)), oo 2 (.asg (.t 15))]
def r_value_kid_5 := rg r_value_kid_5_o [2, 3, 6]
@[go_sem] theorem r_value_kid_5_u : Gr X K s r_value_kid_5 r_value_kid_5_o [2, 3, 6] := go_region _ _
@[go_sem] def r_value_kid_6_o : Ops := [
oo 17 (.bin .eql (.t 9) (ci 13)), oo 16 (.asg (.t 17))]
def r_value_kid_6 := rg r_value_kid_6_o [2, 3, 4, 6, 16]
@[go_sem] theorem r_value_kid_6_u : Gr X K s r_value_kid_6 r_value_kid_6_o [2, 3, 4, 6, 16] := go_region _ _
@[go_sem] def r_value_kid_7_o : Ops := [
oo 18 (.fieldA 1 (.t 4)), oo 19 (.load none (.t 18)), oo 20 (.bin .lss (.t 19) (ci 0)), oo 21 (.mv (.t 20)), og 22 21 false (.fieldA 1 (.t 4)), og 23 21 false (.load none (.t 22)), og 24 21 false (.fieldA 2 (.t 3)), og 25 21 false (.load none (.t 24)), og 26 21 false (.len false (.t 25)), og 27 21 false (.bin .geq (.t 23) (.t 26)), oo 28 (.pick (.t 21) (.c (.bool true)) (.t 27))]
def r_value_kid_7 := rg r_value_kid_7_o [3, 4, 6, 28]
@[go_sem] theorem r_value_kid_7_u : Gr X K s r_value_kid_7 r_value_kid_7_o [3, 4, 6, 28] := go_region _ _
@[go_sem] def r_value_kid_8_o : Ops := [
oo 29 (.build [(.int .i64 0), (.sl []), (.sl []), (.int .i64 0), (.int .i64 0), (.int .i64 0)] []), ow (.store 6 (.t 6) (.t 29)), oo 7 (.asg (.c (.bool false)))]
def r_value_kid_8 := rg r_value_kid_8_o [6, 7]
@[go_sem] theorem r_value_kid_8_u : Gr X K s r_value_kid_8 r_value_kid_8_o [6, 7] := go_region _ _
@[go_sem] def r_value_kid_9_o : Ops := [
oo 30 (.fieldA 1 (.t 4)), oo 31 (.load none (.t 30)), oo 2 (.asg (.t 31))]
def r_value_kid_9 := rg r_value_kid_9_o [2, 3, 6]
@[go_sem] theorem r_value_kid_9_u : Gr X K s r_value_kid_9 r_value_kid_9_o [2, 3, 6] := go_region _ _
@[go_sem] def r_value_kid_10_o : Ops := [
oo 32 (.mv (.t 2)), oo 33 (.fieldA 2 (.t 3)), oo 34 (.load none (.t 33)), oo 35 (.len false (.t 34)), oo 36 (.bin .geq (.t 32) (.t 35))]
def r_value_kid_10 := rg r_value_kid_10_o [2, 3, 6, 36]
@[go_sem] theorem r_value_kid_10_u : Gr X K s r_value_kid_10 r_value_kid_10_o [2, 3, 6, 36] := go_region _ _
@[go_sem] def r_value_kid_11_o : Ops := [
oo 37 (.build [(.int .i64 0), (.sl []), (.sl []), (.int .i64 0), (.int .i64 0), (.int .i64 0)] []), ow (.store 6 (.t 6) (.t 37)), oo 7 (.asg (.c (.bool false)))]
def r_value_kid_11 := rg r_value_kid_11_o [6, 7]
@[go_sem] theorem r_value_kid_11_u : Gr X K s r_value_kid_11 r_value_kid_11_o [6, 7] := go_region _ _
@[go_sem] def r_value_kid_12_o : Ops := [
oo 38 (.fieldA 2 (.t 3)), oo 39 (.load none (.t 38)), oo 40 (.mv (.t 2)), oo 41 (.idxA 6 (.t 39) (.t 40)), oo 42 (.load (some 6) (.t 41)), ow (.store 6 (.t 6) (.t 42)), oo 7 (.asg (.c (.bool true)))]
def r_value_kid_12 := rg r_value_kid_12_o [6, 7]
@[go_sem] theorem r_value_kid_12_u : Gr X K s r_value_kid_12 r_value_kid_12_o [6, 7] := go_region _ _
def c_value_kid : ICode := (.seq r_value_kid_0 (.seq (.seq r_value_kid_1 (.block 0 (.seq r_value_kid_2 (.cond (.t 10) r_value_kid_3 (.seq r_value_kid_4 (.cond (.t 12) r_value_kid_5 (.seq r_value_kid_6 (.cond (.t 16) (.seq (.seq r_value_kid_7 (.cond (.t 28) (.seq r_value_kid_8 .ret) .skip)) r_value_kid_9) .skip)))))))) (.seq r_value_kid_10 (.cond (.t 36) (.seq r_value_kid_11 .ret) (.seq r_value_kid_12 .ret)))))
def i_value_kid : IFunc := ⟨3, [.cell 6 (some 6), .t 7], c_value_kid⟩
def a_value_kid : Advice := ⟨[], [(12, [6, 7]), (11, [6, 7]), (10, [2, 3, 6, 36]), (3, [2, 3, 6]), (5, [2, 3, 6]), (9, [2, 3, 6]), (8, [6, 7]), (7, [3, 4, 6, 28]), (6, [2, 3, 4, 6, 16]), (4, [2, 3, 4, 6, 9, 12]), (2, [2, 3, 4, 6, 9, 10]), (1, [2, 3, 4, 6, 9]), (0, [2, 3, 4, 6])], [], [], []⟩
end Go.Proofs.YtnabebdceaoiiaaGreatDoor
