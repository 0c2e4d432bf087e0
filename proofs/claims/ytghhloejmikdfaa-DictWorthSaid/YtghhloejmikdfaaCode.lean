/- The evaluator's code of the functions that the rows reach, printed by program, checked against the program. -/
import Derived.Test.YtghhloejmikdfaaL11
import Derived.Test.YtghhloejmikdfaaChecked
namespace Go.Proofs.Ytghhloejmikdfaa
open Go.Ev Go
variable {X : Kx} {K : List Kf} {s : St}

def t_string : TypeId := 9
def n_ingotlaw17_DictMakes : FuncId := 3
def n_ingotlaw17_DictBytes : FuncId := 4
def n_ingotlaw17_DictJoins : FuncId := 5
def n_ingotlaw17_DictOrders : FuncId := 6
def n_ingotlaw17_DictWorth : FuncId := 7
def n_ingotlaw17_known : FuncId := 8
def n_ingotlaw17_few : FuncId := 9
def n_dict_Make : FuncId := 10
def n_ingotref17_Make : FuncId := 11
def n_dict_Expand : FuncId := 12
def n_ingotlaw17_Same : FuncId := 13
def n_ingotlaw8_Same : FuncId := 14
def n_dict_Worth : FuncId := 15
def n_ingotref17_Worth : FuncId := 16
def n_dict_Cut : FuncId := 17
def n_ingotref17_Cut : FuncId := 18
def n_ingotref17_Expand : FuncId := 19
def n_dict_Join : FuncId := 20
def n_dict_rising : FuncId := 21
def n_slices_Clip_Sbyte_byte : FuncId := 22
def n_slices_Clone_Sbyte_byte : FuncId := 23
def n_slices_BinarySearchFunc_dict_words_Sbyte_Sbyte : FuncId := 24
def n_bytes_Compare : FuncId := 25
def n_slices_Clip_SSbyte_Sbyte : FuncId := 26
def n_slices_Clip_Sint64_int64 : FuncId := 27
def n_bytes_Join : FuncId := 28
def n_bytealg_Compare : FuncId := 33
def n_bytealg_MakeNoZero : FuncId := 34
/-! ingot/ingotlaw17.DictWorth -/
@[go_sem] def r_ingotlaw17_DictWorth_0_o : Ops := [
oo 6 (.asg (.c (.bool false)))]
def r_ingotlaw17_DictWorth_0 := rg r_ingotlaw17_DictWorth_0_o [0, 1, 2]
@[go_sem] theorem r_ingotlaw17_DictWorth_0_u : Gr X K s r_ingotlaw17_DictWorth_0 r_ingotlaw17_DictWorth_0_o [0, 1, 2] := go_region _ _
@[go_sem] def r_ingotlaw17_DictWorth_1_o : Ops := [
oo 7 (.call false n_ingotlaw17_known []), oo 8 (.un .not (.t 7))]
def r_ingotlaw17_DictWorth_1 := rg r_ingotlaw17_DictWorth_1_o [0, 1, 2, 8]
@[go_sem] theorem r_ingotlaw17_DictWorth_1_u : Gr X K s r_ingotlaw17_DictWorth_1 r_ingotlaw17_DictWorth_1_o [0, 1, 2, 8] := go_region _ _
@[go_sem] def r_ingotlaw17_DictWorth_2_o : Ops := [
oo 6 (.asg (.c (.bool false)))]
def r_ingotlaw17_DictWorth_2 := rg r_ingotlaw17_DictWorth_2_o [6]
@[go_sem] theorem r_ingotlaw17_DictWorth_2_u : Gr X K s r_ingotlaw17_DictWorth_2 r_ingotlaw17_DictWorth_2_o [6] := go_region _ _
@[go_sem] def r_ingotlaw17_DictWorth_3_o : Ops := [
oo 9 (.mv (.t 0)), oo 10 (.call false n_ingotlaw17_few [(.t 9)]), oo 11 (.un .not (.t 10)), oo 12 (.mv (.t 11)), og 13 12 false (.mv (.t 1)), og 14 12 false (.mv (.t 2)), og 15 12 false (.bin .gtr (.t 13) (.t 14)), oo 16 (.pick (.t 12) (.c (.bool true)) (.t 15))]
def r_ingotlaw17_DictWorth_3 := rg r_ingotlaw17_DictWorth_3_o [0, 1, 2, 16]
@[go_sem] theorem r_ingotlaw17_DictWorth_3_u : Gr X K s r_ingotlaw17_DictWorth_3 r_ingotlaw17_DictWorth_3_o [0, 1, 2, 16] := go_region _ _
@[go_sem] def r_ingotlaw17_DictWorth_4_o : Ops := [
oo 6 (.asg (.c (.bool true)))]
def r_ingotlaw17_DictWorth_4 := rg r_ingotlaw17_DictWorth_4_o [6]
@[go_sem] theorem r_ingotlaw17_DictWorth_4_u : Gr X K s r_ingotlaw17_DictWorth_4 r_ingotlaw17_DictWorth_4_o [6] := go_region _ _
@[go_sem] def r_ingotlaw17_DictWorth_5_o : Ops := [
oo 17 (.mv (.t 0)), oo 18 (.len false (.t 17)), oo 19 (.bin .eql (.t 18) (ci 0))]
def r_ingotlaw17_DictWorth_5 := rg r_ingotlaw17_DictWorth_5_o [0, 1, 2, 19]
@[go_sem] theorem r_ingotlaw17_DictWorth_5_u : Gr X K s r_ingotlaw17_DictWorth_5 r_ingotlaw17_DictWorth_5_o [0, 1, 2, 19] := go_region _ _
@[go_sem] def r_ingotlaw17_DictWorth_6_o : Ops := [
oo 20 (.mv (.t 0)), oo 21 (.mv (.t 1)), oo 22 (.call false n_dict_Worth [(.t 20), (.t 21)]), oo 23 (.un .not (.t 22)), oo 24 (.mv (.t 23)), og 25 24 true (.mv (.t 0)), og 26 24 true (.call false n_dict_Worth [(.t 25), (ci 100)]), og 27 24 true (.un .not (.t 26)), oo 28 (.pick (.t 24) (.t 27) (.c (.bool false))), oo 6 (.asg (.t 28))]
def r_ingotlaw17_DictWorth_6 := rg r_ingotlaw17_DictWorth_6_o [6]
@[go_sem] theorem r_ingotlaw17_DictWorth_6_u : Gr X K s r_ingotlaw17_DictWorth_6 r_ingotlaw17_DictWorth_6_o [6] := go_region _ _
@[go_sem] def r_ingotlaw17_DictWorth_7_o : Ops := [
oo 29 (.mv (.t 0)), oo 30 (.mv (.t 1)), oo 31 (.call false n_dict_Worth [(.t 29), (.t 30)]), oo 32 (.un .not (.t 31)), oo 33 (.mv (.t 32)), og 34 33 false (.mv (.t 0)), og 35 33 false (.mv (.t 2)), og 36 33 false (.call false n_dict_Worth [(.t 34), (.t 35)]), oo 37 (.pick (.t 33) (.c (.bool true)) (.t 36)), oo 38 (.mv (.t 37)), og 39 38 true (.mv (.t 0)), og 40 38 true (.call false n_dict_Worth [(.t 39), (ci 100)]), oo 41 (.pick (.t 38) (.t 40) (.c (.bool false))), oo 42 (.mv (.t 41)), og 43 42 true (.mv (.t 0)), og 44 42 true (.call false n_dict_Worth [(.t 43), (ci 0)]), og 45 42 true (.un .not (.t 44)), oo 46 (.pick (.t 42) (.t 45) (.c (.bool false))), oo 6 (.asg (.t 46))]
def r_ingotlaw17_DictWorth_7 := rg r_ingotlaw17_DictWorth_7_o [6]
@[go_sem] theorem r_ingotlaw17_DictWorth_7_u : Gr X K s r_ingotlaw17_DictWorth_7 r_ingotlaw17_DictWorth_7_o [6] := go_region _ _
def c_ingotlaw17_DictWorth : ICode := (.seq r_ingotlaw17_DictWorth_0 (.seq r_ingotlaw17_DictWorth_1 (.cond (.t 8) (.seq r_ingotlaw17_DictWorth_2 .ret) (.seq r_ingotlaw17_DictWorth_3 (.cond (.t 16) (.seq r_ingotlaw17_DictWorth_4 .ret) (.seq r_ingotlaw17_DictWorth_5 (.cond (.t 19) (.seq r_ingotlaw17_DictWorth_6 .ret) (.seq r_ingotlaw17_DictWorth_7 .ret))))))))
def i_ingotlaw17_DictWorth : IFunc := ⟨3, [.t 6], c_ingotlaw17_DictWorth⟩
def a_ingotlaw17_DictWorth : Advice := ⟨[], [(7, [6]), (6, [6]), (5, [0, 1, 2, 19]), (4, [6]), (3, [0, 1, 2, 16]), (2, [6]), (1, [0, 1, 2, 8]), (0, [0, 1, 2])], [], [], []⟩
/-! ingot/ingotlaw17.DictOrders -/
@[go_sem] def r_ingotlaw17_DictOrders_0_o : Ops := [
oo 6 (.asg (.c (.bool false)))]
def r_ingotlaw17_DictOrders_0 := rg r_ingotlaw17_DictOrders_0_o [0, 1, 2]
@[go_sem] theorem r_ingotlaw17_DictOrders_0_u : Gr X K s r_ingotlaw17_DictOrders_0 r_ingotlaw17_DictOrders_0_o [0, 1, 2] := go_region _ _
@[go_sem] def r_ingotlaw17_DictOrders_1_o : Ops := [
oo 11 (.call false n_ingotlaw17_known []), oo 12 (.un .not (.t 11))]
def r_ingotlaw17_DictOrders_1 := rg r_ingotlaw17_DictOrders_1_o [0, 1, 2, 12]
@[go_sem] theorem r_ingotlaw17_DictOrders_1_u : Gr X K s r_ingotlaw17_DictOrders_1 r_ingotlaw17_DictOrders_1_o [0, 1, 2, 12] := go_region _ _
@[go_sem] def r_ingotlaw17_DictOrders_2_o : Ops := [
oo 6 (.asg (.c (.bool false)))]
def r_ingotlaw17_DictOrders_2 := rg r_ingotlaw17_DictOrders_2_o [6]
@[go_sem] theorem r_ingotlaw17_DictOrders_2_u : Gr X K s r_ingotlaw17_DictOrders_2 r_ingotlaw17_DictOrders_2_o [6] := go_region _ _
@[go_sem] def r_ingotlaw17_DictOrders_3_o : Ops := [
oo 13 (.mv (.t 0)), oo 14 (.call false n_ingotlaw17_few [(.t 13)]), oo 15 (.un .not (.t 14)), oo 16 (.mv (.t 15)), og 17 16 false (.mv (.t 0)), og 18 16 false (.len false (.t 17)), og 19 16 false (.bin .eql (.t 18) (ci 0)), oo 20 (.pick (.t 16) (.c (.bool true)) (.t 19)), oo 21 (.mv (.t 20)), og 22 21 false (.mv (.t 1)), og 23 21 false (.bin .lss (.t 22) (ci 0)), oo 24 (.pick (.t 21) (.c (.bool true)) (.t 23)), oo 25 (.mv (.t 24)), og 26 25 false (.mv (.t 2)), og 27 25 false (.bin .lss (.t 26) (ci 0)), oo 28 (.pick (.t 25) (.c (.bool true)) (.t 27))]
def r_ingotlaw17_DictOrders_3 := rg r_ingotlaw17_DictOrders_3_o [0, 1, 2, 28]
@[go_sem] theorem r_ingotlaw17_DictOrders_3_u : Gr X K s r_ingotlaw17_DictOrders_3 r_ingotlaw17_DictOrders_3_o [0, 1, 2, 28] := go_region _ _
@[go_sem] def r_ingotlaw17_DictOrders_4_o : Ops := [
oo 6 (.asg (.c (.bool true)))]
def r_ingotlaw17_DictOrders_4 := rg r_ingotlaw17_DictOrders_4_o [6]
@[go_sem] theorem r_ingotlaw17_DictOrders_4_u : Gr X K s r_ingotlaw17_DictOrders_4 r_ingotlaw17_DictOrders_4_o [6] := go_region _ _
@[go_sem] def r_ingotlaw17_DictOrders_5_o : Ops := [
oo 7 (.asg (.c .nilS))]
def r_ingotlaw17_DictOrders_5 := rg r_ingotlaw17_DictOrders_5_o [0, 1, 2, 7]
@[go_sem] theorem r_ingotlaw17_DictOrders_5_u : Gr X K s r_ingotlaw17_DictOrders_5 r_ingotlaw17_DictOrders_5_o [0, 1, 2, 7] := go_region _ _
@[go_sem] def r_ingotlaw17_DictOrders_6_o : Ops := [
oo 8 (.asg (ci 0))]
def r_ingotlaw17_DictOrders_6 := rg r_ingotlaw17_DictOrders_6_o [0, 1, 2, 7, 8]
@[go_sem] theorem r_ingotlaw17_DictOrders_6_u : Gr X K s r_ingotlaw17_DictOrders_6 r_ingotlaw17_DictOrders_6_o [0, 1, 2, 7, 8] := go_region _ _
@[go_sem] def r_ingotlaw17_DictOrders_7_o : Ops := [
oo 29 (.mv (.t 8)), oo 30 (.mv (.t 0)), oo 31 (.len false (.t 30)), oo 32 (.bin .lss (.t 29) (.t 31))]
def r_ingotlaw17_DictOrders_7 := rg r_ingotlaw17_DictOrders_7_o [0, 1, 2, 7, 8, 32]
@[go_sem] theorem r_ingotlaw17_DictOrders_7_u : Gr X K s r_ingotlaw17_DictOrders_7 r_ingotlaw17_DictOrders_7_o [0, 1, 2, 7, 8, 32] := go_region _ _
@[go_sem] def r_ingotlaw17_DictOrders_8_o : Ops := [
oo 35 (.mv (.t 7)), oo 36 (.mv (.t 0)), oo 37 (.mv (.t 8)), oo 38 (.mv (.t 1)), oo 39 (.mv (.t 0)), oo 40 (.len false (.t 39)), oo 41 (.bin .rem (.t 38) (.t 40)), oo 42 (.bin .add (.t 37) (.t 41)), oo 43 (.mv (.t 0)), oo 44 (.len false (.t 43)), oo 45 (.bin .rem (.t 42) (.t 44)), oo 46 (.idxA 1 (.t 36) (.t 45)), oo 47 (.load none (.t 46)), oo 48 (.lit false 1 1 (.sl []) [(0, (.t 47))]), oo 49 (.append 1 24 (.t 35) (.t 48)), oo 7 (.asg (.t 49))]
def r_ingotlaw17_DictOrders_8 := rg r_ingotlaw17_DictOrders_8_o [0, 1, 2, 7, 8]
@[go_sem] theorem r_ingotlaw17_DictOrders_8_u : Gr X K s r_ingotlaw17_DictOrders_8 r_ingotlaw17_DictOrders_8_o [0, 1, 2, 7, 8] := go_region _ _
@[go_sem] def r_ingotlaw17_DictOrders_9_o : Ops := [
oo 33 (.mv (.t 8)), oo 34 (.bin .add (.t 33) (ci 1)), oo 8 (.asg (.t 34))]
def r_ingotlaw17_DictOrders_9 := rg r_ingotlaw17_DictOrders_9_o [0, 1, 2, 7, 8]
@[go_sem] theorem r_ingotlaw17_DictOrders_9_u : Gr X K s r_ingotlaw17_DictOrders_9 r_ingotlaw17_DictOrders_9_o [0, 1, 2, 7, 8] := go_region _ _
def b_ingotlaw17_DictOrders_10 : ICode := (.seq (.seq r_ingotlaw17_DictOrders_7 (.cond (.t 32) .skip (.exit 0))) (.seq (.block 1 r_ingotlaw17_DictOrders_8) r_ingotlaw17_DictOrders_9))
@[go_sem] theorem b_ingotlaw17_DictOrders_10_u : Gn X K s b_ingotlaw17_DictOrders_10 (.seq (.seq r_ingotlaw17_DictOrders_7 (.cond (.t 32) .skip (.exit 0))) (.seq (.block 1 r_ingotlaw17_DictOrders_8) r_ingotlaw17_DictOrders_9)) := rfl
@[go_sem] def r_ingotlaw17_DictOrders_11_o : Ops := [
oo 50 (.mv (.t 7)), oo 51 (.mv (.t 0)), oo 52 (.mv (.t 2)), oo 53 (.mv (.t 0)), oo 54 (.len false (.t 53)), oo 55 (.bin .rem (.t 52) (.t 54)), oo 56 (.idxA 1 (.t 51) (.t 55)), oo 57 (.load none (.t 56)), oo 58 (.lit false 1 1 (.sl []) [(0, (.t 57))]), oo 59 (.append 1 24 (.t 50) (.t 58)), oo 7 (.asg (.t 59))]
def r_ingotlaw17_DictOrders_11 := rg r_ingotlaw17_DictOrders_11_o [0, 1, 2, 7]
@[go_sem] theorem r_ingotlaw17_DictOrders_11_u : Gr X K s r_ingotlaw17_DictOrders_11 r_ingotlaw17_DictOrders_11_o [0, 1, 2, 7] := go_region _ _
@[go_sem] def r_ingotlaw17_DictOrders_12_o : Ops := [
oo 60 (.mv (.t 0)), oo 61 (.call false n_dict_Make [(.t 60)]), oo 9 (.alloc [.nilS, .nilS]), ow (.store 2 (.t 9) (.t 61))]
def r_ingotlaw17_DictOrders_12 := rg r_ingotlaw17_DictOrders_12_o [0, 1, 2, 7, 9]
@[go_sem] theorem r_ingotlaw17_DictOrders_12_u : Gr X K s r_ingotlaw17_DictOrders_12 r_ingotlaw17_DictOrders_12_o [0, 1, 2, 7, 9] := go_region _ _
@[go_sem] def r_ingotlaw17_DictOrders_13_o : Ops := [
oo 62 (.mv (.t 7)), oo 63 (.call false n_dict_Make [(.t 62)]), oo 10 (.alloc [.nilS, .nilS]), ow (.store 2 (.t 10) (.t 63))]
def r_ingotlaw17_DictOrders_13 := rg r_ingotlaw17_DictOrders_13_o [0, 1, 2, 9, 10]
@[go_sem] theorem r_ingotlaw17_DictOrders_13_u : Gr X K s r_ingotlaw17_DictOrders_13 r_ingotlaw17_DictOrders_13_o [0, 1, 2, 9, 10] := go_region _ _
@[go_sem] def r_ingotlaw17_DictOrders_14_o : Ops := [
oo 64 (.fieldA 0 (.t 9)), oo 65 (.load none (.t 64)), oo 66 (.fieldA 0 (.t 10)), oo 67 (.load none (.t 66)), oo 68 (.call false n_ingotlaw17_Same [(.t 65), (.t 67)]), oo 69 (.mv (.t 68)), og 70 69 true (.fieldA 1 (.t 9)), og 71 69 true (.load none (.t 70)), og 72 69 true (.len false (.t 71)), og 73 69 true (.mv (.t 0)), og 74 69 true (.len false (.t 73)), og 75 69 true (.bin .eql (.t 72) (.t 74)), oo 76 (.pick (.t 69) (.t 75) (.c (.bool false))), oo 77 (.mv (.t 76)), og 78 77 true (.fieldA 1 (.t 10)), og 79 77 true (.load none (.t 78)), og 80 77 true (.len false (.t 79)), og 81 77 true (.mv (.t 0)), og 82 77 true (.len false (.t 81)), og 83 77 true (.bin .add (.t 82) (ci 1)), og 84 77 true (.bin .eql (.t 80) (.t 83)), oo 85 (.pick (.t 77) (.t 84) (.c (.bool false))), oo 86 (.mv (.t 85)), og 87 86 true (.fieldA 1 (.t 10)), og 88 86 true (.load none (.t 87)), og 89 86 true (.idxA 1 (.t 88) (ci 0)), og 90 86 true (.load none (.t 89)), og 91 86 true (.fieldA 1 (.t 9)), og 92 86 true (.load none (.t 91)), og 93 86 true (.mv (.t 1)), og 94 86 true (.mv (.t 0)), og 95 86 true (.len false (.t 94)), og 96 86 true (.bin .rem (.t 93) (.t 95)), og 97 86 true (.idxA 1 (.t 92) (.t 96)), og 98 86 true (.load none (.t 97)), og 99 86 true (.bin .eql (.t 90) (.t 98)), oo 100 (.pick (.t 86) (.t 99) (.c (.bool false))), oo 101 (.mv (.t 100)), og 102 101 true (.fieldA 1 (.t 10)), og 103 101 true (.load none (.t 102)), og 104 101 true (.mv (.t 0)), og 105 101 true (.len false (.t 104)), og 106 101 true (.idxA 1 (.t 103) (.t 105)), og 107 101 true (.load none (.t 106)), og 108 101 true (.fieldA 1 (.t 9)), og 109 101 true (.load none (.t 108)), og 110 101 true (.mv (.t 2)), og 111 101 true (.mv (.t 0)), og 112 101 true (.len false (.t 111)), og 113 101 true (.bin .rem (.t 110) (.t 112)), og 114 101 true (.idxA 1 (.t 109) (.t 113)), og 115 101 true (.load none (.t 114)), og 116 101 true (.bin .eql (.t 107) (.t 115)), oo 117 (.pick (.t 101) (.t 116) (.c (.bool false))), oo 6 (.asg (.t 117))]
def r_ingotlaw17_DictOrders_14_n : List (Nat × Nat) := [(0, 2), (1, 2), (0, 3), (1, 3), (6, 9), (7, 9), (8, 9), (6, 10), (7, 10), (8, 10), (14, 17), (15, 17), (16, 17), (14, 18), (15, 18), (16, 18), (14, 19), (15, 19), (16, 19), (23, 27), (24, 27), (25, 27), (26, 27), (23, 28), (24, 28), (25, 28), (26, 28), (23, 29), (24, 29), (25, 29), (26, 29), (27, 29), (28, 29), (23, 30), (24, 30), (25, 30), (26, 30), (27, 30), (28, 30), (29, 30), (23, 31), (24, 31), (25, 31), (26, 31), (27, 31), (28, 31), (29, 31), (23, 32), (24, 32), (25, 32), (26, 32), (27, 32), (28, 32), (23, 33), (24, 33), (25, 33), (26, 33), (23, 34), (24, 34), (25, 34), (26, 34), (38, 40), (39, 40), (38, 41), (39, 41), (38, 44), (39, 44), (40, 44), (41, 44), (42, 44), (43, 44), (38, 45), (39, 45), (40, 45), (41, 45), (42, 45), (43, 45), (38, 46), (39, 46), (40, 46), (41, 46), (42, 46), (43, 46), (44, 46), (45, 46), (38, 47), (39, 47), (40, 47), (41, 47), (42, 47), (43, 47), (44, 47), (45, 47), (46, 47), (38, 48), (39, 48), (40, 48), (41, 48), (42, 48), (43, 48), (44, 48), (45, 48), (46, 48), (38, 49), (39, 49), (40, 49), (41, 49), (42, 49), (43, 49), (44, 49), (45, 49), (38, 50), (39, 50), (40, 50), (41, 50), (42, 50), (43, 50), (38, 51), (39, 51), (40, 51), (41, 51), (42, 51), (43, 51)]
def r_ingotlaw17_DictOrders_14 : ICode := .region r_ingotlaw17_DictOrders_14_o r_ingotlaw17_DictOrders_14_n [6]
@[go_sem] theorem r_ingotlaw17_DictOrders_14_u : go X (.c r_ingotlaw17_DictOrders_14 :: K) s = goRU X [] r_ingotlaw17_DictOrders_14_n r_ingotlaw17_DictOrders_14_o [6] K s := go_regionU' _ _ _ _
def c_ingotlaw17_DictOrders : ICode := (.seq r_ingotlaw17_DictOrders_0 (.seq r_ingotlaw17_DictOrders_1 (.cond (.t 12) (.seq r_ingotlaw17_DictOrders_2 .ret) (.seq r_ingotlaw17_DictOrders_3 (.cond (.t 28) (.seq r_ingotlaw17_DictOrders_4 .ret) (.seq r_ingotlaw17_DictOrders_5 (.seq (.seq r_ingotlaw17_DictOrders_6 (.block 0 (.loop b_ingotlaw17_DictOrders_10))) (.seq r_ingotlaw17_DictOrders_11 (.seq r_ingotlaw17_DictOrders_12 (.seq (.seq (.demote [7]) r_ingotlaw17_DictOrders_13) (.seq r_ingotlaw17_DictOrders_14 .ret)))))))))))
def i_ingotlaw17_DictOrders : IFunc := ⟨3, [.t 6], c_ingotlaw17_DictOrders⟩
def a_ingotlaw17_DictOrders : Advice := ⟨[49, 59], [(13, [6]), (12, [0, 1, 2, 9, 10]), (11, [0, 1, 2, 7, 9]), (10, [0, 1, 2, 7]), (8, [0, 1, 2, 7, 8]), (9, [0, 1, 2, 7, 8]), (7, [0, 1, 2, 7, 8, 32]), (6, [0, 1, 2, 7, 8]), (5, [0, 1, 2, 7]), (4, [6]), (3, [0, 1, 2, 28]), (2, [6]), (1, [0, 1, 2, 12]), (0, [0, 1, 2])], [(12, [7])], [], []⟩
/-! ingot/ingotlaw17.DictJoins -/
@[go_sem] def r_ingotlaw17_DictJoins_0_o : Ops := [
oo 4 (.asg (.c (.bool false)))]
def r_ingotlaw17_DictJoins_0 := rg r_ingotlaw17_DictJoins_0_o [0, 1]
@[go_sem] theorem r_ingotlaw17_DictJoins_0_u : Gr X K s r_ingotlaw17_DictJoins_0 r_ingotlaw17_DictJoins_0_o [0, 1] := go_region _ _
@[go_sem] def r_ingotlaw17_DictJoins_1_o : Ops := [
oo 13 (.call false n_ingotlaw17_known []), oo 14 (.un .not (.t 13))]
def r_ingotlaw17_DictJoins_1 := rg r_ingotlaw17_DictJoins_1_o [0, 1, 14]
@[go_sem] theorem r_ingotlaw17_DictJoins_1_u : Gr X K s r_ingotlaw17_DictJoins_1 r_ingotlaw17_DictJoins_1_o [0, 1, 14] := go_region _ _
@[go_sem] def r_ingotlaw17_DictJoins_2_o : Ops := [
oo 4 (.asg (.c (.bool false)))]
def r_ingotlaw17_DictJoins_2 := rg r_ingotlaw17_DictJoins_2_o [4]
@[go_sem] theorem r_ingotlaw17_DictJoins_2_u : Gr X K s r_ingotlaw17_DictJoins_2 r_ingotlaw17_DictJoins_2_o [4] := go_region _ _
@[go_sem] def r_ingotlaw17_DictJoins_3_o : Ops := [
oo 15 (.mv (.t 0)), oo 16 (.call false n_ingotlaw17_few [(.t 15)]), oo 17 (.un .not (.t 16)), oo 18 (.mv (.t 17)), og 19 18 false (.mv (.t 1)), og 20 18 false (.bin .lss (.t 19) (ci 0)), oo 21 (.pick (.t 18) (.c (.bool true)) (.t 20)), oo 22 (.mv (.t 21)), og 23 22 false (.mv (.t 1)), og 24 22 false (.mv (.t 0)), og 25 22 false (.len false (.t 24)), og 26 22 false (.bin .gtr (.t 23) (.t 25)), oo 27 (.pick (.t 22) (.c (.bool true)) (.t 26))]
def r_ingotlaw17_DictJoins_3 := rg r_ingotlaw17_DictJoins_3_o [0, 1, 27]
@[go_sem] theorem r_ingotlaw17_DictJoins_3_u : Gr X K s r_ingotlaw17_DictJoins_3 r_ingotlaw17_DictJoins_3_o [0, 1, 27] := go_region _ _
@[go_sem] def r_ingotlaw17_DictJoins_4_o : Ops := [
oo 4 (.asg (.c (.bool true)))]
def r_ingotlaw17_DictJoins_4 := rg r_ingotlaw17_DictJoins_4_o [4]
@[go_sem] theorem r_ingotlaw17_DictJoins_4_u : Gr X K s r_ingotlaw17_DictJoins_4 r_ingotlaw17_DictJoins_4_o [4] := go_region _ _
@[go_sem] def r_ingotlaw17_DictJoins_5_o : Ops := [
oo 29 (.mv (.t 0)), oo 30 (.call false n_dict_Join [(.t 29)]), oo 28 (.mv (.t 30)), oo 31 (.ext (.t 28) 0), oo 32 (.ext (.t 28) 1), oo 5 (.asg (.t 31)), oo 6 (.asg (.t 32))]
def r_ingotlaw17_DictJoins_5 := rg r_ingotlaw17_DictJoins_5_o [0, 1, 5, 6]
@[go_sem] theorem r_ingotlaw17_DictJoins_5_u : Gr X K s r_ingotlaw17_DictJoins_5 r_ingotlaw17_DictJoins_5_o [0, 1, 5, 6] := go_region _ _
@[go_sem] def r_ingotlaw17_DictJoins_6_o : Ops := [
oo 34 (.mv (.t 5)), oo 35 (.mv (.t 6)), oo 36 (.call false n_dict_Cut [(.t 34), (.t 35)]), oo 33 (.mv (.t 36)), oo 37 (.ext (.t 33) 0), oo 38 (.ext (.t 33) 1), oo 7 (.asg (.t 37)), oo 8 (.asg (.t 38))]
def r_ingotlaw17_DictJoins_6 := rg r_ingotlaw17_DictJoins_6_o [0, 1, 5, 6, 7, 8]
@[go_sem] theorem r_ingotlaw17_DictJoins_6_u : Gr X K s r_ingotlaw17_DictJoins_6 r_ingotlaw17_DictJoins_6_o [0, 1, 5, 6, 7, 8] := go_region _ _
@[go_sem] def r_ingotlaw17_DictJoins_7_o : Ops := [
oo 40 (.mv (.t 0)), oo 41 (.mv (.t 1)), oo 42 (.slice 1 (.t 40) none (some (.t 41)) none), oo 43 (.call false n_dict_Join [(.t 42)]), oo 39 (.mv (.t 43)), oo 44 (.ext (.t 39) 0), oo 45 (.ext (.t 39) 1), oo 9 (.asg (.t 44)), oo 10 (.asg (.t 45))]
def r_ingotlaw17_DictJoins_7 := rg r_ingotlaw17_DictJoins_7_o [0, 1, 5, 6, 7, 8, 9, 10]
@[go_sem] theorem r_ingotlaw17_DictJoins_7_u : Gr X K s r_ingotlaw17_DictJoins_7 r_ingotlaw17_DictJoins_7_o [0, 1, 5, 6, 7, 8, 9, 10] := go_region _ _
@[go_sem] def r_ingotlaw17_DictJoins_8_o : Ops := [
oo 47 (.mv (.t 0)), oo 48 (.mv (.t 1)), oo 49 (.slice 1 (.t 47) (some (.t 48)) none none), oo 50 (.call false n_dict_Join [(.t 49)]), oo 46 (.mv (.t 50)), oo 51 (.ext (.t 46) 0), oo 52 (.ext (.t 46) 1), oo 11 (.asg (.t 51)), oo 12 (.asg (.t 52))]
def r_ingotlaw17_DictJoins_8 := rg r_ingotlaw17_DictJoins_8_o [0, 5, 6, 7, 8, 9, 10, 11, 12]
@[go_sem] theorem r_ingotlaw17_DictJoins_8_u : Gr X K s r_ingotlaw17_DictJoins_8 r_ingotlaw17_DictJoins_8_o [0, 5, 6, 7, 8, 9, 10, 11, 12] := go_region _ _
@[go_sem] def r_ingotlaw17_DictJoins_9_o : Ops := [
oo 53 (.mv (.t 8)), oo 54 (.bin .eql (.t 53) (ci 0)), oo 55 (.mv (.t 54)), og 56 55 true (.mv (.t 7)), og 57 55 true (.mv (.t 0)), og 58 55 true (.call false n_ingotlaw17_Same [(.t 56), (.t 57)]), oo 59 (.pick (.t 55) (.t 58) (.c (.bool false))), oo 60 (.mv (.t 59)), og 61 60 true (.mv (.t 5)), og 62 60 true (.b2s (.t 61)), og 63 60 true (.mv (.t 9)), og 64 60 true (.b2s (.t 63)), og 65 60 true (.mv (.t 11)), og 66 60 true (.b2s (.t 65)), og 67 60 true (.bin .add (.t 64) (.t 66)), og 68 60 true (.bin .eql (.t 62) (.t 67)), oo 69 (.pick (.t 60) (.t 68) (.c (.bool false))), oo 70 (.mv (.t 69)), og 71 70 true (.mv (.t 6)), og 72 70 true (.lit true 1 0 (.int .i64 0) []), og 73 70 true (.mv (.t 10)), og 74 70 true (.append 1 8 (.t 72) (.t 73)), og 75 70 true (.mv (.t 12)), og 76 70 true (.append 1 8 (.t 74) (.t 75)), og 77 70 true (.call false n_ingotlaw8_Same [(.t 71), (.t 76)]), oo 78 (.pick (.t 70) (.t 77) (.c (.bool false))), oo 79 (.mv (.t 78)), og 80 79 true (.mv (.t 6)), og 81 79 true (.len false (.t 80)), og 82 79 true (.mv (.t 0)), og 83 79 true (.len false (.t 82)), og 84 79 true (.bin .eql (.t 81) (.t 83)), oo 85 (.pick (.t 79) (.t 84) (.c (.bool false))), oo 4 (.asg (.t 85))]
def r_ingotlaw17_DictJoins_9 := rg r_ingotlaw17_DictJoins_9_o [4]
@[go_sem] theorem r_ingotlaw17_DictJoins_9_u : Gr X K s r_ingotlaw17_DictJoins_9 r_ingotlaw17_DictJoins_9_o [4] := go_region _ _
def c_ingotlaw17_DictJoins : ICode := (.seq r_ingotlaw17_DictJoins_0 (.seq r_ingotlaw17_DictJoins_1 (.cond (.t 14) (.seq r_ingotlaw17_DictJoins_2 .ret) (.seq r_ingotlaw17_DictJoins_3 (.cond (.t 27) (.seq r_ingotlaw17_DictJoins_4 .ret) (.seq r_ingotlaw17_DictJoins_5 (.seq r_ingotlaw17_DictJoins_6 (.seq r_ingotlaw17_DictJoins_7 (.seq r_ingotlaw17_DictJoins_8 (.seq r_ingotlaw17_DictJoins_9 .ret))))))))))
def i_ingotlaw17_DictJoins : IFunc := ⟨2, [.t 4], c_ingotlaw17_DictJoins⟩
def a_ingotlaw17_DictJoins : Advice := ⟨[72, 74], [(9, [4]), (8, [0, 5, 6, 7, 8, 9, 10, 11, 12]), (7, [0, 1, 5, 6, 7, 8, 9, 10]), (6, [0, 1, 5, 6, 7, 8]), (5, [0, 1, 5, 6]), (4, [4]), (3, [0, 1, 27]), (2, [4]), (1, [0, 1, 14]), (0, [0, 1])], [], [], []⟩
/-! ingot/ingotref17.Expand -/
@[go_sem] def r_ingotref17_Expand_0_o : Ops := [
oo 4 (.asg (.c .nilS)), oo 5 (.asg (ci 0))]
def r_ingotref17_Expand_0 := rg r_ingotref17_Expand_0_o [0, 1]
@[go_sem] theorem r_ingotref17_Expand_0_u : Gr X K s r_ingotref17_Expand_0 r_ingotref17_Expand_0_o [0, 1] := go_region _ _
@[go_sem] def r_ingotref17_Expand_1_o : Ops := [
oo 6 (.asg (.c .nilS))]
def r_ingotref17_Expand_1 := rg r_ingotref17_Expand_1_o [0, 1, 6]
@[go_sem] theorem r_ingotref17_Expand_1_u : Gr X K s r_ingotref17_Expand_1 r_ingotref17_Expand_1_o [0, 1, 6] := go_region _ _
@[go_sem] def r_ingotref17_Expand_2_o : Ops := [
oo 7 (.asg (ci 0))]
def r_ingotref17_Expand_2 := rg r_ingotref17_Expand_2_o [0, 1, 6, 7]
@[go_sem] theorem r_ingotref17_Expand_2_u : Gr X K s r_ingotref17_Expand_2 r_ingotref17_Expand_2_o [0, 1, 6, 7] := go_region _ _
@[go_sem] def r_ingotref17_Expand_3_o : Ops := [
oo 8 (.mv (.t 7)), oo 9 (.mv (.t 1)), oo 10 (.len false (.t 9)), oo 11 (.bin .lss (.t 8) (.t 10))]
def r_ingotref17_Expand_3 := rg r_ingotref17_Expand_3_o [0, 1, 6, 7, 11]
@[go_sem] theorem r_ingotref17_Expand_3_u : Gr X K s r_ingotref17_Expand_3 r_ingotref17_Expand_3_o [0, 1, 6, 7, 11] := go_region _ _
@[go_sem] def r_ingotref17_Expand_4_o : Ops := [
oo 14 (.mv (.t 1)), oo 15 (.mv (.t 7)), oo 16 (.idxA 1 (.t 14) (.t 15)), oo 17 (.load none (.t 16)), oo 18 (.bin .lss (.t 17) (ci 0)), oo 19 (.mv (.t 18)), og 20 19 false (.mv (.t 1)), og 21 19 false (.mv (.t 7)), og 22 19 false (.idxA 1 (.t 20) (.t 21)), og 23 19 false (.load none (.t 22)), og 24 19 false (.mv (.t 0)), og 25 19 false (.len false (.t 24)), og 26 19 false (.bin .geq (.t 23) (.t 25)), oo 27 (.pick (.t 19) (.c (.bool true)) (.t 26))]
def r_ingotref17_Expand_4 := rg r_ingotref17_Expand_4_o [0, 1, 6, 7, 27]
@[go_sem] theorem r_ingotref17_Expand_4_u : Gr X K s r_ingotref17_Expand_4 r_ingotref17_Expand_4_o [0, 1, 6, 7, 27] := go_region _ _
@[go_sem] def r_ingotref17_Expand_5_o : Ops := [
oo 4 (.asg (.c .nilS)), oo 5 (.asg (ci 2))]
def r_ingotref17_Expand_5 := rg r_ingotref17_Expand_5_o [4, 5]
@[go_sem] theorem r_ingotref17_Expand_5_u : Gr X K s r_ingotref17_Expand_5 r_ingotref17_Expand_5_o [4, 5] := go_region _ _
@[go_sem] def r_ingotref17_Expand_6_o : Ops := [
oo 28 (.mv (.t 6)), oo 29 (.mv (.t 0)), oo 30 (.mv (.t 1)), oo 31 (.mv (.t 7)), oo 32 (.idxA 1 (.t 30) (.t 31)), oo 33 (.load none (.t 32)), oo 34 (.idxA 1 (.t 29) (.t 33)), oo 35 (.load none (.t 34)), oo 36 (.lit false 1 1 (.sl []) [(0, (.t 35))]), oo 37 (.append 1 24 (.t 28) (.t 36)), oo 6 (.asg (.t 37))]
def r_ingotref17_Expand_6 := rg r_ingotref17_Expand_6_o [0, 1, 6, 7]
@[go_sem] theorem r_ingotref17_Expand_6_u : Gr X K s r_ingotref17_Expand_6 r_ingotref17_Expand_6_o [0, 1, 6, 7] := go_region _ _
@[go_sem] def r_ingotref17_Expand_7_o : Ops := [
oo 12 (.mv (.t 7)), oo 13 (.bin .add (.t 12) (ci 1)), oo 7 (.asg (.t 13))]
def r_ingotref17_Expand_7 := rg r_ingotref17_Expand_7_o [0, 1, 6, 7]
@[go_sem] theorem r_ingotref17_Expand_7_u : Gr X K s r_ingotref17_Expand_7 r_ingotref17_Expand_7_o [0, 1, 6, 7] := go_region _ _
def b_ingotref17_Expand_8 : ICode := (.seq (.seq r_ingotref17_Expand_3 (.cond (.t 11) .skip (.exit 0))) (.seq (.block 1 (.seq (.seq r_ingotref17_Expand_4 (.cond (.t 27) (.seq r_ingotref17_Expand_5 .ret) .skip)) r_ingotref17_Expand_6)) r_ingotref17_Expand_7))
@[go_sem] theorem b_ingotref17_Expand_8_u : Gn X K s b_ingotref17_Expand_8 (.seq (.seq r_ingotref17_Expand_3 (.cond (.t 11) .skip (.exit 0))) (.seq (.block 1 (.seq (.seq r_ingotref17_Expand_4 (.cond (.t 27) (.seq r_ingotref17_Expand_5 .ret) .skip)) r_ingotref17_Expand_6)) r_ingotref17_Expand_7)) := rfl
@[go_sem] def r_ingotref17_Expand_9_o : Ops := [
oo 38 (.mv (.t 6)), oo 4 (.asg (.t 38)), oo 5 (.asg (ci 0))]
def r_ingotref17_Expand_9 := rg r_ingotref17_Expand_9_o [4, 5]
@[go_sem] theorem r_ingotref17_Expand_9_u : Gr X K s r_ingotref17_Expand_9 r_ingotref17_Expand_9_o [4, 5] := go_region _ _
def c_ingotref17_Expand : ICode := (.seq r_ingotref17_Expand_0 (.seq r_ingotref17_Expand_1 (.seq (.seq r_ingotref17_Expand_2 (.block 0 (.loop b_ingotref17_Expand_8))) (.seq r_ingotref17_Expand_9 .ret))))
def i_ingotref17_Expand : IFunc := ⟨2, [.t 4, .t 5], c_ingotref17_Expand⟩
def a_ingotref17_Expand : Advice := ⟨[37], [(8, [4, 5]), (4, [0, 1, 6, 7]), (7, [0, 1, 6, 7]), (6, [4, 5]), (5, [0, 1, 6, 7, 27]), (3, [0, 1, 6, 7, 11]), (2, [0, 1, 6, 7]), (1, [0, 1, 6]), (0, [0, 1])], [], [], []⟩
/-! ingot/ingotref17.Cut -/
@[go_sem] def r_ingotref17_Cut_0_o : Ops := [
oo 4 (.asg (.c .nilS)), oo 5 (.asg (ci 0))]
def r_ingotref17_Cut_0 := rg r_ingotref17_Cut_0_o [0, 1]
@[go_sem] theorem r_ingotref17_Cut_0_u : Gr X K s r_ingotref17_Cut_0 r_ingotref17_Cut_0_o [0, 1] := go_region _ _
@[go_sem] def r_ingotref17_Cut_1_o : Ops := [
oo 6 (.asg (.c .nilS))]
def r_ingotref17_Cut_1 := rg r_ingotref17_Cut_1_o [0, 1, 6]
@[go_sem] theorem r_ingotref17_Cut_1_u : Gr X K s r_ingotref17_Cut_1 r_ingotref17_Cut_1_o [0, 1, 6] := go_region _ _
@[go_sem] def r_ingotref17_Cut_2_o : Ops := [
oo 7 (.asg (ci 0))]
def r_ingotref17_Cut_2 := rg r_ingotref17_Cut_2_o [0, 1, 6, 7]
@[go_sem] theorem r_ingotref17_Cut_2_u : Gr X K s r_ingotref17_Cut_2 r_ingotref17_Cut_2_o [0, 1, 6, 7] := go_region _ _
@[go_sem] def r_ingotref17_Cut_3_o : Ops := [
oo 8 (.asg (ci 0))]
def r_ingotref17_Cut_3 := rg r_ingotref17_Cut_3_o [0, 1, 6, 7, 8]
@[go_sem] theorem r_ingotref17_Cut_3_u : Gr X K s r_ingotref17_Cut_3 r_ingotref17_Cut_3_o [0, 1, 6, 7, 8] := go_region _ _
@[go_sem] def r_ingotref17_Cut_4_o : Ops := [
oo 10 (.mv (.t 8)), oo 11 (.mv (.t 1)), oo 12 (.len false (.t 11)), oo 13 (.bin .lss (.t 10) (.t 12))]
def r_ingotref17_Cut_4 := rg r_ingotref17_Cut_4_o [0, 1, 6, 7, 8, 13]
@[go_sem] theorem r_ingotref17_Cut_4_u : Gr X K s r_ingotref17_Cut_4 r_ingotref17_Cut_4_o [0, 1, 6, 7, 8, 13] := go_region _ _
@[go_sem] def r_ingotref17_Cut_5_o : Ops := [
oo 17 (.mv (.t 1)), oo 18 (.mv (.t 8)), oo 19 (.idxA 1 (.t 17) (.t 18)), oo 20 (.load none (.t 19)), oo 21 (.bin .lss (.t 20) (ci 0)), oo 16 (.asg (.t 21))]
def r_ingotref17_Cut_5 := rg r_ingotref17_Cut_5_o [0, 1, 6, 7, 8, 16]
@[go_sem] theorem r_ingotref17_Cut_5_u : Gr X K s r_ingotref17_Cut_5 r_ingotref17_Cut_5_o [0, 1, 6, 7, 8, 16] := go_region _ _
@[go_sem] def r_ingotref17_Cut_6_o : Ops := [
oo 4 (.asg (.c .nilS)), oo 5 (.asg (ci 2))]
def r_ingotref17_Cut_6 := rg r_ingotref17_Cut_6_o [4, 5]
@[go_sem] theorem r_ingotref17_Cut_6_u : Gr X K s r_ingotref17_Cut_6 r_ingotref17_Cut_6_o [4, 5] := go_region _ _
@[go_sem] def r_ingotref17_Cut_7_o : Ops := [
oo 23 (.mv (.t 1)), oo 24 (.mv (.t 8)), oo 25 (.idxA 1 (.t 23) (.t 24)), oo 26 (.load none (.t 25)), oo 27 (.bin .gtr (.t 26) (ci 4096)), oo 22 (.asg (.t 27))]
def r_ingotref17_Cut_7 := rg r_ingotref17_Cut_7_o [0, 1, 6, 7, 8, 22]
@[go_sem] theorem r_ingotref17_Cut_7_u : Gr X K s r_ingotref17_Cut_7 r_ingotref17_Cut_7_o [0, 1, 6, 7, 8, 22] := go_region _ _
@[go_sem] def r_ingotref17_Cut_8_o : Ops := [
oo 4 (.asg (.c .nilS)), oo 5 (.asg (ci 4))]
def r_ingotref17_Cut_8 := rg r_ingotref17_Cut_8_o [4, 5]
@[go_sem] theorem r_ingotref17_Cut_8_u : Gr X K s r_ingotref17_Cut_8 r_ingotref17_Cut_8_o [4, 5] := go_region _ _
@[go_sem] def r_ingotref17_Cut_9_o : Ops := [
oo 29 (.mv (.t 1)), oo 30 (.mv (.t 8)), oo 31 (.idxA 1 (.t 29) (.t 30)), oo 32 (.load none (.t 31)), oo 33 (.mv (.t 0)), oo 34 (.len false (.t 33)), oo 35 (.mv (.t 7)), oo 36 (.bin .sub (.t 34) (.t 35)), oo 37 (.bin .gtr (.t 32) (.t 36)), oo 28 (.asg (.t 37))]
def r_ingotref17_Cut_9 := rg r_ingotref17_Cut_9_o [0, 1, 6, 7, 8, 28]
@[go_sem] theorem r_ingotref17_Cut_9_u : Gr X K s r_ingotref17_Cut_9 r_ingotref17_Cut_9_o [0, 1, 6, 7, 8, 28] := go_region _ _
@[go_sem] def r_ingotref17_Cut_10_o : Ops := [
oo 4 (.asg (.c .nilS)), oo 5 (.asg (ci 3))]
def r_ingotref17_Cut_10 := rg r_ingotref17_Cut_10_o [4, 5]
@[go_sem] theorem r_ingotref17_Cut_10_u : Gr X K s r_ingotref17_Cut_10 r_ingotref17_Cut_10_o [4, 5] := go_region _ _
@[go_sem] def r_ingotref17_Cut_11_o : Ops := [
oo 38 (.mv (.t 7)), oo 39 (.mv (.t 1)), oo 40 (.mv (.t 8)), oo 41 (.idxA 1 (.t 39) (.t 40)), oo 42 (.load none (.t 41)), oo 43 (.bin .add (.t 38) (.t 42)), oo 9 (.asg (.t 43))]
def r_ingotref17_Cut_11 := rg r_ingotref17_Cut_11_o [0, 1, 6, 7, 8, 9]
@[go_sem] theorem r_ingotref17_Cut_11_u : Gr X K s r_ingotref17_Cut_11 r_ingotref17_Cut_11_o [0, 1, 6, 7, 8, 9] := go_region _ _
@[go_sem] def r_ingotref17_Cut_12_o : Ops := [
oo 44 (.mv (.t 6)), oo 45 (.lit true 1 0 (.int .u8 0) []), oo 46 (.mv (.t 0)), oo 47 (.mv (.t 7)), oo 48 (.mv (.t 9)), oo 49 (.slice 1 (.t 46) (some (.t 47)) (some (.t 48)) none), oo 50 (.append 1 1 (.t 45) (.t 49)), oo 51 (.lit false 1 1 (.sl []) [(0, (.t 50))]), oo 52 (.append 1 24 (.t 44) (.t 51)), oo 6 (.asg (.t 52))]
def r_ingotref17_Cut_12 := rg r_ingotref17_Cut_12_o [0, 1, 6, 8, 9]
@[go_sem] theorem r_ingotref17_Cut_12_u : Gr X K s r_ingotref17_Cut_12 r_ingotref17_Cut_12_o [0, 1, 6, 8, 9] := go_region _ _
@[go_sem] def r_ingotref17_Cut_13_o : Ops := [
oo 53 (.mv (.t 9)), oo 7 (.asg (.t 53))]
def r_ingotref17_Cut_13 := rg r_ingotref17_Cut_13_o [0, 1, 6, 7, 8]
@[go_sem] theorem r_ingotref17_Cut_13_u : Gr X K s r_ingotref17_Cut_13 r_ingotref17_Cut_13_o [0, 1, 6, 7, 8] := go_region _ _
@[go_sem] def r_ingotref17_Cut_14_o : Ops := [
oo 14 (.mv (.t 8)), oo 15 (.bin .add (.t 14) (ci 1)), oo 8 (.asg (.t 15))]
def r_ingotref17_Cut_14 := rg r_ingotref17_Cut_14_o [0, 1, 6, 7, 8]
@[go_sem] theorem r_ingotref17_Cut_14_u : Gr X K s r_ingotref17_Cut_14 r_ingotref17_Cut_14_o [0, 1, 6, 7, 8] := go_region _ _
def b_ingotref17_Cut_15 : ICode := (.seq (.seq r_ingotref17_Cut_4 (.cond (.t 13) .skip (.exit 0))) (.seq (.block 1 (.seq (.block 2 (.seq r_ingotref17_Cut_5 (.cond (.t 16) (.seq r_ingotref17_Cut_6 .ret) (.seq r_ingotref17_Cut_7 (.cond (.t 22) (.seq r_ingotref17_Cut_8 .ret) (.seq r_ingotref17_Cut_9 (.cond (.t 28) (.seq r_ingotref17_Cut_10 .ret) .skip))))))) (.seq r_ingotref17_Cut_11 (.seq r_ingotref17_Cut_12 r_ingotref17_Cut_13)))) r_ingotref17_Cut_14))
@[go_sem] theorem b_ingotref17_Cut_15_u : Gn X K s b_ingotref17_Cut_15 (.seq (.seq r_ingotref17_Cut_4 (.cond (.t 13) .skip (.exit 0))) (.seq (.block 1 (.seq (.block 2 (.seq r_ingotref17_Cut_5 (.cond (.t 16) (.seq r_ingotref17_Cut_6 .ret) (.seq r_ingotref17_Cut_7 (.cond (.t 22) (.seq r_ingotref17_Cut_8 .ret) (.seq r_ingotref17_Cut_9 (.cond (.t 28) (.seq r_ingotref17_Cut_10 .ret) .skip))))))) (.seq r_ingotref17_Cut_11 (.seq r_ingotref17_Cut_12 r_ingotref17_Cut_13)))) r_ingotref17_Cut_14)) := rfl
@[go_sem] def r_ingotref17_Cut_16_o : Ops := [
oo 54 (.mv (.t 7)), oo 55 (.mv (.t 0)), oo 56 (.len false (.t 55)), oo 57 (.bin .neq (.t 54) (.t 56))]
def r_ingotref17_Cut_16 := rg r_ingotref17_Cut_16_o [6, 57]
@[go_sem] theorem r_ingotref17_Cut_16_u : Gr X K s r_ingotref17_Cut_16 r_ingotref17_Cut_16_o [6, 57] := go_region _ _
@[go_sem] def r_ingotref17_Cut_17_o : Ops := [
oo 4 (.asg (.c .nilS)), oo 5 (.asg (ci 2))]
def r_ingotref17_Cut_17 := rg r_ingotref17_Cut_17_o [4, 5]
@[go_sem] theorem r_ingotref17_Cut_17_u : Gr X K s r_ingotref17_Cut_17 r_ingotref17_Cut_17_o [4, 5] := go_region _ _
@[go_sem] def r_ingotref17_Cut_18_o : Ops := [
oo 58 (.mv (.t 6)), oo 4 (.asg (.t 58)), oo 5 (.asg (ci 0))]
def r_ingotref17_Cut_18 := rg r_ingotref17_Cut_18_o [4, 5]
@[go_sem] theorem r_ingotref17_Cut_18_u : Gr X K s r_ingotref17_Cut_18 r_ingotref17_Cut_18_o [4, 5] := go_region _ _
def c_ingotref17_Cut : ICode := (.seq r_ingotref17_Cut_0 (.seq r_ingotref17_Cut_1 (.seq r_ingotref17_Cut_2 (.seq (.seq r_ingotref17_Cut_3 (.block 0 (.loop b_ingotref17_Cut_15))) (.seq r_ingotref17_Cut_16 (.cond (.t 57) (.seq r_ingotref17_Cut_17 .ret) (.seq r_ingotref17_Cut_18 .ret)))))))
def i_ingotref17_Cut : IFunc := ⟨2, [.t 4, .t 5], c_ingotref17_Cut⟩
def a_ingotref17_Cut : Advice := ⟨[45, 52], [(17, [4, 5]), (16, [4, 5]), (15, [6, 57]), (5, [0, 1, 6, 7, 8]), (14, [0, 1, 6, 7, 8]), (13, [0, 1, 6, 8, 9]), (12, [0, 1, 6, 7, 8, 9]), (7, [4, 5]), (9, [4, 5]), (11, [4, 5]), (10, [0, 1, 6, 7, 8, 28]), (8, [0, 1, 6, 7, 8, 22]), (6, [0, 1, 6, 7, 8, 16]), (4, [0, 1, 6, 7, 8, 13]), (3, [0, 1, 6, 7, 8]), (2, [0, 1, 6, 7]), (1, [0, 1, 6]), (0, [0, 1])], [], [], []⟩
/-! ingot/ingotlaw17.DictBytes -/
@[go_sem] def r_ingotlaw17_DictBytes_0_o : Ops := [
oo 8 (.asg (.c (.bool false)))]
def r_ingotlaw17_DictBytes_0 := rg r_ingotlaw17_DictBytes_0_o [0, 1, 2, 3]
@[go_sem] theorem r_ingotlaw17_DictBytes_0_u : Gr X K s r_ingotlaw17_DictBytes_0 r_ingotlaw17_DictBytes_0_o [0, 1, 2, 3] := go_region _ _
@[go_sem] def r_ingotlaw17_DictBytes_1_o : Ops := [
oo 17 (.call false n_ingotlaw17_known []), oo 18 (.un .not (.t 17))]
def r_ingotlaw17_DictBytes_1 := rg r_ingotlaw17_DictBytes_1_o [0, 1, 2, 3, 18]
@[go_sem] theorem r_ingotlaw17_DictBytes_1_u : Gr X K s r_ingotlaw17_DictBytes_1 r_ingotlaw17_DictBytes_1_o [0, 1, 2, 3, 18] := go_region _ _
@[go_sem] def r_ingotlaw17_DictBytes_2_o : Ops := [
oo 8 (.asg (.c (.bool false)))]
def r_ingotlaw17_DictBytes_2 := rg r_ingotlaw17_DictBytes_2_o [8]
@[go_sem] theorem r_ingotlaw17_DictBytes_2_u : Gr X K s r_ingotlaw17_DictBytes_2 r_ingotlaw17_DictBytes_2_o [8] := go_region _ _
@[go_sem] def r_ingotlaw17_DictBytes_3_o : Ops := [
oo 19 (.mv (.t 0)), oo 20 (.len false (.t 19)), oo 21 (.bin .gtr (.t 20) (ci 6000)), oo 22 (.mv (.t 21)), og 23 22 false (.mv (.t 1)), og 24 22 false (.len false (.t 23)), og 25 22 false (.bin .gtr (.t 24) (ci 200)), oo 26 (.pick (.t 22) (.c (.bool true)) (.t 25)), oo 27 (.mv (.t 26)), og 28 27 false (.mv (.t 2)), og 29 27 false (.call false n_ingotlaw17_few [(.t 28)]), og 30 27 false (.un .not (.t 29)), oo 31 (.pick (.t 27) (.c (.bool true)) (.t 30)), oo 32 (.mv (.t 31)), og 33 32 false (.mv (.t 3)), og 34 32 false (.len false (.t 33)), og 35 32 false (.bin .gtr (.t 34) (ci 200)), oo 36 (.pick (.t 32) (.c (.bool true)) (.t 35))]
def r_ingotlaw17_DictBytes_3 := rg r_ingotlaw17_DictBytes_3_o [0, 1, 2, 3, 36]
@[go_sem] theorem r_ingotlaw17_DictBytes_3_u : Gr X K s r_ingotlaw17_DictBytes_3 r_ingotlaw17_DictBytes_3_o [0, 1, 2, 3, 36] := go_region _ _
@[go_sem] def r_ingotlaw17_DictBytes_4_o : Ops := [
oo 8 (.asg (.c (.bool true)))]
def r_ingotlaw17_DictBytes_4 := rg r_ingotlaw17_DictBytes_4_o [8]
@[go_sem] theorem r_ingotlaw17_DictBytes_4_u : Gr X K s r_ingotlaw17_DictBytes_4 r_ingotlaw17_DictBytes_4_o [8] := go_region _ _
@[go_sem] def r_ingotlaw17_DictBytes_5_o : Ops := [
oo 38 (.mv (.t 0)), oo 39 (.mv (.t 1)), oo 40 (.call false n_dict_Cut [(.t 38), (.t 39)]), oo 37 (.mv (.t 40)), oo 41 (.ext (.t 37) 0), oo 42 (.ext (.t 37) 1), oo 9 (.asg (.t 41)), oo 10 (.asg (.t 42))]
def r_ingotlaw17_DictBytes_5 := rg r_ingotlaw17_DictBytes_5_o [0, 1, 2, 3, 9, 10]
@[go_sem] theorem r_ingotlaw17_DictBytes_5_u : Gr X K s r_ingotlaw17_DictBytes_5 r_ingotlaw17_DictBytes_5_o [0, 1, 2, 3, 9, 10] := go_region _ _
@[go_sem] def r_ingotlaw17_DictBytes_6_o : Ops := [
oo 44 (.mv (.t 0)), oo 45 (.mv (.t 1)), oo 46 (.call false n_ingotref17_Cut [(.t 44), (.t 45)]), oo 43 (.mv (.t 46)), oo 47 (.ext (.t 43) 0), oo 48 (.ext (.t 43) 1), oo 11 (.asg (.t 47)), oo 12 (.asg (.t 48))]
def r_ingotlaw17_DictBytes_6 := rg r_ingotlaw17_DictBytes_6_o [2, 3, 9, 10, 11, 12]
@[go_sem] theorem r_ingotlaw17_DictBytes_6_u : Gr X K s r_ingotlaw17_DictBytes_6 r_ingotlaw17_DictBytes_6_o [2, 3, 9, 10, 11, 12] := go_region _ _
@[go_sem] def r_ingotlaw17_DictBytes_7_o : Ops := [
oo 50 (.mv (.t 2)), oo 51 (.mv (.t 3)), oo 52 (.call false n_dict_Expand [(.t 50), (.t 51)]), oo 49 (.mv (.t 52)), oo 53 (.ext (.t 49) 0), oo 54 (.ext (.t 49) 1), oo 13 (.asg (.t 53)), oo 14 (.asg (.t 54))]
def r_ingotlaw17_DictBytes_7 := rg r_ingotlaw17_DictBytes_7_o [2, 3, 9, 10, 11, 12, 13, 14]
@[go_sem] theorem r_ingotlaw17_DictBytes_7_u : Gr X K s r_ingotlaw17_DictBytes_7 r_ingotlaw17_DictBytes_7_o [2, 3, 9, 10, 11, 12, 13, 14] := go_region _ _
@[go_sem] def r_ingotlaw17_DictBytes_8_o : Ops := [
oo 56 (.mv (.t 2)), oo 57 (.mv (.t 3)), oo 58 (.call false n_ingotref17_Expand [(.t 56), (.t 57)]), oo 55 (.mv (.t 58)), oo 59 (.ext (.t 55) 0), oo 60 (.ext (.t 55) 1), oo 15 (.asg (.t 59)), oo 16 (.asg (.t 60))]
def r_ingotlaw17_DictBytes_8 := rg r_ingotlaw17_DictBytes_8_o [9, 10, 11, 12, 13, 14, 15, 16]
@[go_sem] theorem r_ingotlaw17_DictBytes_8_u : Gr X K s r_ingotlaw17_DictBytes_8 r_ingotlaw17_DictBytes_8_o [9, 10, 11, 12, 13, 14, 15, 16] := go_region _ _
@[go_sem] def r_ingotlaw17_DictBytes_9_o : Ops := [
oo 61 (.mv (.t 9)), oo 62 (.mv (.t 11)), oo 63 (.call false n_ingotlaw17_Same [(.t 61), (.t 62)]), oo 64 (.mv (.t 63)), og 65 64 true (.mv (.t 10)), og 66 64 true (.mv (.t 12)), og 67 64 true (.bin .eql (.t 65) (.t 66)), oo 68 (.pick (.t 64) (.t 67) (.c (.bool false))), oo 69 (.mv (.t 68)), og 70 69 true (.mv (.t 13)), og 71 69 true (.mv (.t 15)), og 72 69 true (.call false n_ingotlaw17_Same [(.t 70), (.t 71)]), oo 73 (.pick (.t 69) (.t 72) (.c (.bool false))), oo 74 (.mv (.t 73)), og 75 74 true (.mv (.t 14)), og 76 74 true (.mv (.t 16)), og 77 74 true (.bin .eql (.t 75) (.t 76)), oo 78 (.pick (.t 74) (.t 77) (.c (.bool false))), oo 8 (.asg (.t 78))]
def r_ingotlaw17_DictBytes_9 := rg r_ingotlaw17_DictBytes_9_o [8]
@[go_sem] theorem r_ingotlaw17_DictBytes_9_u : Gr X K s r_ingotlaw17_DictBytes_9 r_ingotlaw17_DictBytes_9_o [8] := go_region _ _
def c_ingotlaw17_DictBytes : ICode := (.seq r_ingotlaw17_DictBytes_0 (.seq r_ingotlaw17_DictBytes_1 (.cond (.t 18) (.seq r_ingotlaw17_DictBytes_2 .ret) (.seq r_ingotlaw17_DictBytes_3 (.cond (.t 36) (.seq r_ingotlaw17_DictBytes_4 .ret) (.seq r_ingotlaw17_DictBytes_5 (.seq r_ingotlaw17_DictBytes_6 (.seq r_ingotlaw17_DictBytes_7 (.seq r_ingotlaw17_DictBytes_8 (.seq r_ingotlaw17_DictBytes_9 .ret))))))))))
def i_ingotlaw17_DictBytes : IFunc := ⟨4, [.t 8], c_ingotlaw17_DictBytes⟩
def a_ingotlaw17_DictBytes : Advice := ⟨[], [(9, [8]), (8, [9, 10, 11, 12, 13, 14, 15, 16]), (7, [2, 3, 9, 10, 11, 12, 13, 14]), (6, [2, 3, 9, 10, 11, 12]), (5, [0, 1, 2, 3, 9, 10]), (4, [8]), (3, [0, 1, 2, 3, 36]), (2, [8]), (1, [0, 1, 2, 3, 18]), (0, [0, 1, 2, 3])], [], [], []⟩
/-! ingot/ingotref17.Worth -/
@[go_sem] def r_ingotref17_Worth_0_o : Ops := [
oo 4 (.asg (.c (.bool false)))]
def r_ingotref17_Worth_0 := rg r_ingotref17_Worth_0_o [0, 1]
@[go_sem] theorem r_ingotref17_Worth_0_u : Gr X K s r_ingotref17_Worth_0 r_ingotref17_Worth_0_o [0, 1] := go_region _ _
@[go_sem] def r_ingotref17_Worth_1_o : Ops := [
oo 7 (.mv (.t 1)), oo 8 (.bin .lss (.t 7) (ci 0))]
def r_ingotref17_Worth_1 := rg r_ingotref17_Worth_1_o [0, 1, 8]
@[go_sem] theorem r_ingotref17_Worth_1_u : Gr X K s r_ingotref17_Worth_1 r_ingotref17_Worth_1_o [0, 1, 8] := go_region _ _
@[go_sem] def r_ingotref17_Worth_2_o : Ops := [
oo 1 (.asg (ci 0))]
def r_ingotref17_Worth_2 := rg r_ingotref17_Worth_2_o [0, 1]
@[go_sem] theorem r_ingotref17_Worth_2_u : Gr X K s r_ingotref17_Worth_2 r_ingotref17_Worth_2_o [0, 1] := go_region _ _
@[go_sem] def r_ingotref17_Worth_3_o : Ops := [
oo 9 (.mv (.t 1)), oo 10 (.bin .gtr (.t 9) (ci 100))]
def r_ingotref17_Worth_3 := rg r_ingotref17_Worth_3_o [0, 1, 10]
@[go_sem] theorem r_ingotref17_Worth_3_u : Gr X K s r_ingotref17_Worth_3 r_ingotref17_Worth_3_o [0, 1, 10] := go_region _ _
@[go_sem] def r_ingotref17_Worth_4_o : Ops := [
oo 1 (.asg (ci 100))]
def r_ingotref17_Worth_4 := rg r_ingotref17_Worth_4_o [0, 1]
@[go_sem] theorem r_ingotref17_Worth_4_u : Gr X K s r_ingotref17_Worth_4 r_ingotref17_Worth_4_o [0, 1] := go_region _ _
@[go_sem] def r_ingotref17_Worth_5_o : Ops := [
oo 12 (.mv (.t 0)), oo 13 (.call false n_ingotref17_Make [(.t 12)]), oo 11 (.mv (.t 13)), oo 14 (.ext (.t 11) 0), oo 15 (.ext (.t 11) 1), oo 5 (.asg (.t 14)), oo 6 (.asg (.t 15))]
def r_ingotref17_Worth_5 := rg r_ingotref17_Worth_5_o [0, 1, 5]
@[go_sem] theorem r_ingotref17_Worth_5_u : Gr X K s r_ingotref17_Worth_5 r_ingotref17_Worth_5_o [0, 1, 5] := go_region _ _
@[go_sem] def r_ingotref17_Worth_6_o : Ops := [
oo 16 (.mv (.t 0)), oo 17 (.len false (.t 16)), oo 18 (.bin .gtr (.t 17) (ci 0)), oo 19 (.mv (.t 18)), og 20 19 true (.mv (.t 5)), og 21 19 true (.len false (.t 20)), og 22 19 true (.bin .mul (ci 100) (.t 21)), og 23 19 true (.mv (.t 1)), og 24 19 true (.mv (.t 0)), og 25 19 true (.len false (.t 24)), og 26 19 true (.bin .mul (.t 23) (.t 25)), og 27 19 true (.bin .leq (.t 22) (.t 26)), oo 28 (.pick (.t 19) (.t 27) (.c (.bool false))), oo 4 (.asg (.t 28))]
def r_ingotref17_Worth_6 := rg r_ingotref17_Worth_6_o [4]
@[go_sem] theorem r_ingotref17_Worth_6_u : Gr X K s r_ingotref17_Worth_6 r_ingotref17_Worth_6_o [4] := go_region _ _
def c_ingotref17_Worth : ICode := (.seq r_ingotref17_Worth_0 (.seq (.seq r_ingotref17_Worth_1 (.cond (.t 8) r_ingotref17_Worth_2 .skip)) (.seq (.seq r_ingotref17_Worth_3 (.cond (.t 10) r_ingotref17_Worth_4 .skip)) (.seq r_ingotref17_Worth_5 (.seq r_ingotref17_Worth_6 .ret)))))
def i_ingotref17_Worth : IFunc := ⟨2, [.t 4], c_ingotref17_Worth⟩
def a_ingotref17_Worth : Advice := ⟨[], [(6, [4]), (5, [0, 1, 5]), (4, [0, 1]), (3, [0, 1, 10]), (2, [0, 1]), (1, [0, 1, 8]), (0, [0, 1])], [], [], []⟩
/-! ingot/ingotlaw8.Same -/
@[go_sem] def r_ingotlaw8_Same_0_o : Ops := [
oo 4 (.asg (.c (.bool false)))]
def r_ingotlaw8_Same_0 := rg r_ingotlaw8_Same_0_o [0, 1]
@[go_sem] theorem r_ingotlaw8_Same_0_u : Gr X K s r_ingotlaw8_Same_0 r_ingotlaw8_Same_0_o [0, 1] := go_region _ _
@[go_sem] def r_ingotlaw8_Same_1_o : Ops := [
oo 6 (.mv (.t 0)), oo 7 (.len false (.t 6)), oo 8 (.mv (.t 1)), oo 9 (.len false (.t 8)), oo 10 (.bin .neq (.t 7) (.t 9))]
def r_ingotlaw8_Same_1 := rg r_ingotlaw8_Same_1_o [0, 1, 10]
@[go_sem] theorem r_ingotlaw8_Same_1_u : Gr X K s r_ingotlaw8_Same_1 r_ingotlaw8_Same_1_o [0, 1, 10] := go_region _ _
@[go_sem] def r_ingotlaw8_Same_2_o : Ops := [
oo 4 (.asg (.c (.bool false)))]
def r_ingotlaw8_Same_2 := rg r_ingotlaw8_Same_2_o [4]
@[go_sem] theorem r_ingotlaw8_Same_2_u : Gr X K s r_ingotlaw8_Same_2 r_ingotlaw8_Same_2_o [4] := go_region _ _
@[go_sem] def r_ingotlaw8_Same_3_o : Ops := [
oo 5 (.asg (ci 0))]
def r_ingotlaw8_Same_3 := rg r_ingotlaw8_Same_3_o [0, 1, 5]
@[go_sem] theorem r_ingotlaw8_Same_3_u : Gr X K s r_ingotlaw8_Same_3 r_ingotlaw8_Same_3_o [0, 1, 5] := go_region _ _
@[go_sem] def r_ingotlaw8_Same_4_o : Ops := [
oo 11 (.mv (.t 5)), oo 12 (.mv (.t 0)), oo 13 (.len false (.t 12)), oo 14 (.bin .lss (.t 11) (.t 13))]
def r_ingotlaw8_Same_4 := rg r_ingotlaw8_Same_4_o [0, 1, 5, 14]
@[go_sem] theorem r_ingotlaw8_Same_4_u : Gr X K s r_ingotlaw8_Same_4 r_ingotlaw8_Same_4_o [0, 1, 5, 14] := go_region _ _
@[go_sem] def r_ingotlaw8_Same_5_o : Ops := [
oo 17 (.mv (.t 0)), oo 18 (.mv (.t 5)), oo 19 (.idxA 1 (.t 17) (.t 18)), oo 20 (.load none (.t 19)), oo 21 (.mv (.t 1)), oo 22 (.mv (.t 5)), oo 23 (.idxA 1 (.t 21) (.t 22)), oo 24 (.load none (.t 23)), oo 25 (.bin .neq (.t 20) (.t 24))]
def r_ingotlaw8_Same_5_n : List (Nat × Nat) := [(0, 1), (0, 4), (1, 4), (2, 4), (3, 4), (0, 5), (1, 5), (2, 5), (3, 5), (4, 5), (0, 6), (1, 6), (2, 6), (3, 6), (0, 7), (1, 7), (2, 7), (3, 7)]
def r_ingotlaw8_Same_5 : ICode := .region r_ingotlaw8_Same_5_o r_ingotlaw8_Same_5_n [0, 1, 5, 25]
@[go_sem] theorem r_ingotlaw8_Same_5_u : go X (.c r_ingotlaw8_Same_5 :: K) s = goRU X [] r_ingotlaw8_Same_5_n r_ingotlaw8_Same_5_o [0, 1, 5, 25] K s := go_regionU' _ _ _ _
@[go_sem] def r_ingotlaw8_Same_6_o : Ops := [
oo 4 (.asg (.c (.bool false)))]
def r_ingotlaw8_Same_6 := rg r_ingotlaw8_Same_6_o [4]
@[go_sem] theorem r_ingotlaw8_Same_6_u : Gr X K s r_ingotlaw8_Same_6 r_ingotlaw8_Same_6_o [4] := go_region _ _
@[go_sem] def r_ingotlaw8_Same_7_o : Ops := [
oo 15 (.mv (.t 5)), oo 16 (.bin .add (.t 15) (ci 1)), oo 5 (.asg (.t 16))]
def r_ingotlaw8_Same_7 := rg r_ingotlaw8_Same_7_o [0, 1, 5]
@[go_sem] theorem r_ingotlaw8_Same_7_u : Gr X K s r_ingotlaw8_Same_7 r_ingotlaw8_Same_7_o [0, 1, 5] := go_region _ _
def b_ingotlaw8_Same_8 : ICode := (.seq (.seq r_ingotlaw8_Same_4 (.cond (.t 14) .skip (.exit 0))) (.seq (.block 1 (.seq r_ingotlaw8_Same_5 (.cond (.t 25) (.seq r_ingotlaw8_Same_6 .ret) .skip))) r_ingotlaw8_Same_7))
@[go_sem] theorem b_ingotlaw8_Same_8_u : Gn X K s b_ingotlaw8_Same_8 (.seq (.seq r_ingotlaw8_Same_4 (.cond (.t 14) .skip (.exit 0))) (.seq (.block 1 (.seq r_ingotlaw8_Same_5 (.cond (.t 25) (.seq r_ingotlaw8_Same_6 .ret) .skip))) r_ingotlaw8_Same_7)) := rfl
@[go_sem] def r_ingotlaw8_Same_9_o : Ops := [
oo 4 (.asg (.c (.bool true)))]
def r_ingotlaw8_Same_9 := rg r_ingotlaw8_Same_9_o [4]
@[go_sem] theorem r_ingotlaw8_Same_9_u : Gr X K s r_ingotlaw8_Same_9 r_ingotlaw8_Same_9_o [4] := go_region _ _
def c_ingotlaw8_Same : ICode := (.seq r_ingotlaw8_Same_0 (.seq r_ingotlaw8_Same_1 (.cond (.t 10) (.seq r_ingotlaw8_Same_2 .ret) (.seq (.seq r_ingotlaw8_Same_3 (.block 0 (.loop b_ingotlaw8_Same_8))) (.seq r_ingotlaw8_Same_9 .ret)))))
def i_ingotlaw8_Same : IFunc := ⟨2, [.t 4], c_ingotlaw8_Same⟩
def a_ingotlaw8_Same : Advice := ⟨[], [(8, [4]), (5, [0, 1, 5]), (7, [4]), (6, [0, 1, 5, 25]), (4, [0, 1, 5, 14]), (3, [0, 1, 5]), (2, [4]), (1, [0, 1, 10]), (0, [0, 1])], [], [], []⟩
/-! ingot/ingotlaw17.Same -/
@[go_sem] def r_ingotlaw17_Same_0_o : Ops := [
oo 4 (.asg (.c (.bool false)))]
def r_ingotlaw17_Same_0 := rg r_ingotlaw17_Same_0_o [0, 1]
@[go_sem] theorem r_ingotlaw17_Same_0_u : Gr X K s r_ingotlaw17_Same_0 r_ingotlaw17_Same_0_o [0, 1] := go_region _ _
@[go_sem] def r_ingotlaw17_Same_1_o : Ops := [
oo 6 (.mv (.t 0)), oo 7 (.len false (.t 6)), oo 8 (.mv (.t 1)), oo 9 (.len false (.t 8)), oo 10 (.bin .neq (.t 7) (.t 9))]
def r_ingotlaw17_Same_1 := rg r_ingotlaw17_Same_1_o [0, 1, 10]
@[go_sem] theorem r_ingotlaw17_Same_1_u : Gr X K s r_ingotlaw17_Same_1 r_ingotlaw17_Same_1_o [0, 1, 10] := go_region _ _
@[go_sem] def r_ingotlaw17_Same_2_o : Ops := [
oo 4 (.asg (.c (.bool false)))]
def r_ingotlaw17_Same_2 := rg r_ingotlaw17_Same_2_o [4]
@[go_sem] theorem r_ingotlaw17_Same_2_u : Gr X K s r_ingotlaw17_Same_2 r_ingotlaw17_Same_2_o [4] := go_region _ _
@[go_sem] def r_ingotlaw17_Same_3_o : Ops := [
oo 5 (.asg (ci 0))]
def r_ingotlaw17_Same_3 := rg r_ingotlaw17_Same_3_o [0, 1, 5]
@[go_sem] theorem r_ingotlaw17_Same_3_u : Gr X K s r_ingotlaw17_Same_3 r_ingotlaw17_Same_3_o [0, 1, 5] := go_region _ _
@[go_sem] def r_ingotlaw17_Same_4_o : Ops := [
oo 11 (.mv (.t 5)), oo 12 (.mv (.t 0)), oo 13 (.len false (.t 12)), oo 14 (.bin .lss (.t 11) (.t 13))]
def r_ingotlaw17_Same_4 := rg r_ingotlaw17_Same_4_o [0, 1, 5, 14]
@[go_sem] theorem r_ingotlaw17_Same_4_u : Gr X K s r_ingotlaw17_Same_4 r_ingotlaw17_Same_4_o [0, 1, 5, 14] := go_region _ _
@[go_sem] def r_ingotlaw17_Same_5_o : Ops := [
oo 17 (.mv (.t 0)), oo 18 (.mv (.t 5)), oo 19 (.idxA 1 (.t 17) (.t 18)), oo 20 (.load none (.t 19)), oo 21 (.b2s (.t 20)), oo 22 (.mv (.t 1)), oo 23 (.mv (.t 5)), oo 24 (.idxA 1 (.t 22) (.t 23)), oo 25 (.load none (.t 24)), oo 26 (.b2s (.t 25)), oo 27 (.bin .neq (.t 21) (.t 26))]
def r_ingotlaw17_Same_5_n : List (Nat × Nat) := [(0, 1), (0, 5), (1, 5), (2, 5), (3, 5), (4, 5), (0, 6), (1, 6), (2, 6), (3, 6), (4, 6), (5, 6), (0, 7), (1, 7), (2, 7), (3, 7), (4, 7), (0, 8), (1, 8), (2, 8), (3, 8), (4, 8), (0, 9), (1, 9), (2, 9), (3, 9), (4, 9)]
def r_ingotlaw17_Same_5 : ICode := .region r_ingotlaw17_Same_5_o r_ingotlaw17_Same_5_n [0, 1, 5, 27]
@[go_sem] theorem r_ingotlaw17_Same_5_u : go X (.c r_ingotlaw17_Same_5 :: K) s = goRU X [] r_ingotlaw17_Same_5_n r_ingotlaw17_Same_5_o [0, 1, 5, 27] K s := go_regionU' _ _ _ _
@[go_sem] def r_ingotlaw17_Same_6_o : Ops := [
oo 4 (.asg (.c (.bool false)))]
def r_ingotlaw17_Same_6 := rg r_ingotlaw17_Same_6_o [4]
@[go_sem] theorem r_ingotlaw17_Same_6_u : Gr X K s r_ingotlaw17_Same_6 r_ingotlaw17_Same_6_o [4] := go_region _ _
@[go_sem] def r_ingotlaw17_Same_7_o : Ops := [
oo 15 (.mv (.t 5)), oo 16 (.bin .add (.t 15) (ci 1)), oo 5 (.asg (.t 16))]
def r_ingotlaw17_Same_7 := rg r_ingotlaw17_Same_7_o [0, 1, 5]
@[go_sem] theorem r_ingotlaw17_Same_7_u : Gr X K s r_ingotlaw17_Same_7 r_ingotlaw17_Same_7_o [0, 1, 5] := go_region _ _
def b_ingotlaw17_Same_8 : ICode := (.seq (.seq r_ingotlaw17_Same_4 (.cond (.t 14) .skip (.exit 0))) (.seq (.block 1 (.seq r_ingotlaw17_Same_5 (.cond (.t 27) (.seq r_ingotlaw17_Same_6 .ret) .skip))) r_ingotlaw17_Same_7))
@[go_sem] theorem b_ingotlaw17_Same_8_u : Gn X K s b_ingotlaw17_Same_8 (.seq (.seq r_ingotlaw17_Same_4 (.cond (.t 14) .skip (.exit 0))) (.seq (.block 1 (.seq r_ingotlaw17_Same_5 (.cond (.t 27) (.seq r_ingotlaw17_Same_6 .ret) .skip))) r_ingotlaw17_Same_7)) := rfl
@[go_sem] def r_ingotlaw17_Same_9_o : Ops := [
oo 4 (.asg (.c (.bool true)))]
def r_ingotlaw17_Same_9 := rg r_ingotlaw17_Same_9_o [4]
@[go_sem] theorem r_ingotlaw17_Same_9_u : Gr X K s r_ingotlaw17_Same_9 r_ingotlaw17_Same_9_o [4] := go_region _ _
def c_ingotlaw17_Same : ICode := (.seq r_ingotlaw17_Same_0 (.seq r_ingotlaw17_Same_1 (.cond (.t 10) (.seq r_ingotlaw17_Same_2 .ret) (.seq (.seq r_ingotlaw17_Same_3 (.block 0 (.loop b_ingotlaw17_Same_8))) (.seq r_ingotlaw17_Same_9 .ret)))))
def i_ingotlaw17_Same : IFunc := ⟨2, [.t 4], c_ingotlaw17_Same⟩
def a_ingotlaw17_Same : Advice := ⟨[], [(8, [4]), (5, [0, 1, 5]), (7, [4]), (6, [0, 1, 5, 27]), (4, [0, 1, 5, 14]), (3, [0, 1, 5]), (2, [4]), (1, [0, 1, 10]), (0, [0, 1])], [], [], []⟩
/-! ingot/ingotref17.Make -/
@[go_sem] def r_ingotref17_Make_0_o : Ops := [
oo 2 (.asg (.c .nilS)), oo 3 (.asg (.c .nilS))]
def r_ingotref17_Make_0 := rg r_ingotref17_Make_0_o [0]
@[go_sem] theorem r_ingotref17_Make_0_u : Gr X K s r_ingotref17_Make_0 r_ingotref17_Make_0_o [0] := go_region _ _
@[go_sem] def r_ingotref17_Make_1_o : Ops := [
oo 4 (.asg (.c .nilS))]
def r_ingotref17_Make_1 := rg r_ingotref17_Make_1_o [0, 4]
@[go_sem] theorem r_ingotref17_Make_1_u : Gr X K s r_ingotref17_Make_1 r_ingotref17_Make_1_o [0, 4] := go_region _ _
@[go_sem] def r_ingotref17_Make_2_o : Ops := [
oo 5 (.asg (ci 0))]
def r_ingotref17_Make_2 := rg r_ingotref17_Make_2_o [0, 4, 5]
@[go_sem] theorem r_ingotref17_Make_2_u : Gr X K s r_ingotref17_Make_2 r_ingotref17_Make_2_o [0, 4, 5] := go_region _ _
@[go_sem] def r_ingotref17_Make_3_o : Ops := [
oo 11 (.mv (.t 5)), oo 12 (.mv (.t 0)), oo 13 (.len false (.t 12)), oo 14 (.bin .lss (.t 11) (.t 13))]
def r_ingotref17_Make_3 := rg r_ingotref17_Make_3_o [0, 4, 5, 14]
@[go_sem] theorem r_ingotref17_Make_3_u : Gr X K s r_ingotref17_Make_3 r_ingotref17_Make_3_o [0, 4, 5, 14] := go_region _ _
@[go_sem] def r_ingotref17_Make_4_o : Ops := [
oo 6 (.asg (ci 0))]
def r_ingotref17_Make_4 := rg r_ingotref17_Make_4_o [0, 4, 5, 6]
@[go_sem] theorem r_ingotref17_Make_4_u : Gr X K s r_ingotref17_Make_4 r_ingotref17_Make_4_o [0, 4, 5, 6] := go_region _ _
@[go_sem] def r_ingotref17_Make_5_o : Ops := [
oo 17 (.mv (.t 6)), oo 18 (.mv (.t 4)), oo 19 (.len false (.t 18)), oo 20 (.bin .lss (.t 17) (.t 19)), oo 21 (.mv (.t 20)), og 22 21 true (.mv (.t 4)), og 23 21 true (.mv (.t 6)), og 24 21 true (.idxA 1 (.t 22) (.t 23)), og 25 21 true (.load none (.t 24)), og 26 21 true (.b2s (.t 25)), og 27 21 true (.mv (.t 0)), og 28 21 true (.mv (.t 5)), og 29 21 true (.idxA 1 (.t 27) (.t 28)), og 30 21 true (.load none (.t 29)), og 31 21 true (.b2s (.t 30)), og 32 21 true (.bin .lss (.t 26) (.t 31)), oo 33 (.pick (.t 21) (.t 32) (.c (.bool false)))]
def r_ingotref17_Make_5_n : List (Nat × Nat) := [(0, 1), (0, 2), (5, 6), (5, 10), (6, 10), (7, 10), (8, 10), (9, 10), (5, 11), (6, 11), (7, 11), (8, 11), (9, 11), (10, 11), (5, 12), (6, 12), (7, 12), (8, 12), (9, 12), (5, 13), (6, 13), (7, 13), (8, 13), (9, 13), (5, 14), (6, 14), (7, 14), (8, 14), (9, 14)]
def r_ingotref17_Make_5 : ICode := .region r_ingotref17_Make_5_o r_ingotref17_Make_5_n [0, 4, 5, 6, 33]
@[go_sem] theorem r_ingotref17_Make_5_u : go X (.c r_ingotref17_Make_5 :: K) s = goRU X [] r_ingotref17_Make_5_n r_ingotref17_Make_5_o [0, 4, 5, 6, 33] K s := go_regionU' _ _ _ _
@[go_sem] def r_ingotref17_Make_6_o : Ops := [
oo 34 (.mv (.t 6)), oo 35 (.bin .add (.t 34) (ci 1)), oo 6 (.asg (.t 35))]
def r_ingotref17_Make_6 := rg r_ingotref17_Make_6_o [0, 4, 5, 6]
@[go_sem] theorem r_ingotref17_Make_6_u : Gr X K s r_ingotref17_Make_6 r_ingotref17_Make_6_o [0, 4, 5, 6] := go_region _ _
def b_ingotref17_Make_7 : ICode := (.seq (.seq r_ingotref17_Make_5 (.cond (.t 33) .skip (.exit 2))) (.block 3 r_ingotref17_Make_6))
@[go_sem] theorem b_ingotref17_Make_7_u : Gn X K s b_ingotref17_Make_7 (.seq (.seq r_ingotref17_Make_5 (.cond (.t 33) .skip (.exit 2))) (.block 3 r_ingotref17_Make_6)) := rfl
@[go_sem] def r_ingotref17_Make_8_o : Ops := [
oo 36 (.mv (.t 6)), oo 37 (.mv (.t 4)), oo 38 (.len false (.t 37)), oo 39 (.bin .lss (.t 36) (.t 38)), oo 40 (.mv (.t 39)), og 41 40 true (.mv (.t 4)), og 42 40 true (.mv (.t 6)), og 43 40 true (.idxA 1 (.t 41) (.t 42)), og 44 40 true (.load none (.t 43)), og 45 40 true (.b2s (.t 44)), og 46 40 true (.mv (.t 0)), og 47 40 true (.mv (.t 5)), og 48 40 true (.idxA 1 (.t 46) (.t 47)), og 49 40 true (.load none (.t 48)), og 50 40 true (.b2s (.t 49)), og 51 40 true (.bin .eql (.t 45) (.t 50)), oo 52 (.pick (.t 40) (.t 51) (.c (.bool false)))]
def r_ingotref17_Make_8_n : List (Nat × Nat) := [(0, 1), (0, 2), (5, 6), (5, 10), (6, 10), (7, 10), (8, 10), (9, 10), (5, 11), (6, 11), (7, 11), (8, 11), (9, 11), (10, 11), (5, 12), (6, 12), (7, 12), (8, 12), (9, 12), (5, 13), (6, 13), (7, 13), (8, 13), (9, 13), (5, 14), (6, 14), (7, 14), (8, 14), (9, 14)]
def r_ingotref17_Make_8 : ICode := .region r_ingotref17_Make_8_o r_ingotref17_Make_8_n [0, 4, 5, 6, 52]
@[go_sem] theorem r_ingotref17_Make_8_u : go X (.c r_ingotref17_Make_8 :: K) s = goRU X [] r_ingotref17_Make_8_n r_ingotref17_Make_8_o [0, 4, 5, 6, 52] K s := go_regionU' _ _ _ _
@[go_sem] def r_ingotref17_Make_9_o : Ops := [
oo 53 (.lit true 1 0 (.sl []) []), oo 54 (.mv (.t 4)), oo 55 (.mv (.t 6)), oo 56 (.slice 1 (.t 54) none (some (.t 55)) none), oo 57 (.append 1 24 (.t 53) (.t 56)), oo 7 (.asg (.t 57))]
def r_ingotref17_Make_9 := rg r_ingotref17_Make_9_o [0, 4, 5, 6, 7]
@[go_sem] theorem r_ingotref17_Make_9_u : Gr X K s r_ingotref17_Make_9 r_ingotref17_Make_9_o [0, 4, 5, 6, 7] := go_region _ _
@[go_sem] def r_ingotref17_Make_10_o : Ops := [
oo 58 (.mv (.t 7)), oo 59 (.mv (.t 0)), oo 60 (.mv (.t 5)), oo 61 (.idxA 1 (.t 59) (.t 60)), oo 62 (.load none (.t 61)), oo 63 (.lit false 1 1 (.sl []) [(0, (.t 62))]), oo 64 (.append 1 24 (.t 58) (.t 63)), oo 7 (.asg (.t 64))]
def r_ingotref17_Make_10 := rg r_ingotref17_Make_10_o [0, 4, 5, 6, 7]
@[go_sem] theorem r_ingotref17_Make_10_u : Gr X K s r_ingotref17_Make_10 r_ingotref17_Make_10_o [0, 4, 5, 6, 7] := go_region _ _
@[go_sem] def r_ingotref17_Make_11_o : Ops := [
oo 65 (.mv (.t 7)), oo 66 (.mv (.t 4)), oo 67 (.mv (.t 6)), oo 68 (.slice 1 (.t 66) (some (.t 67)) none none), oo 69 (.append 1 24 (.t 65) (.t 68)), oo 4 (.asg (.t 69))]
def r_ingotref17_Make_11 := rg r_ingotref17_Make_11_o [0, 4, 5]
@[go_sem] theorem r_ingotref17_Make_11_u : Gr X K s r_ingotref17_Make_11 r_ingotref17_Make_11_o [0, 4, 5] := go_region _ _
@[go_sem] def r_ingotref17_Make_12_o : Ops := [
oo 15 (.mv (.t 5)), oo 16 (.bin .add (.t 15) (ci 1)), oo 5 (.asg (.t 16))]
def r_ingotref17_Make_12 := rg r_ingotref17_Make_12_o [0, 4, 5]
@[go_sem] theorem r_ingotref17_Make_12_u : Gr X K s r_ingotref17_Make_12 r_ingotref17_Make_12_o [0, 4, 5] := go_region _ _
def b_ingotref17_Make_13 : ICode := (.seq (.seq r_ingotref17_Make_3 (.cond (.t 14) .skip (.exit 0))) (.seq (.block 1 (.seq r_ingotref17_Make_4 (.seq (.block 2 (.loop b_ingotref17_Make_7)) (.seq (.seq r_ingotref17_Make_8 (.cond (.t 52) (.exit 1) .skip)) (.seq r_ingotref17_Make_9 (.seq r_ingotref17_Make_10 r_ingotref17_Make_11)))))) r_ingotref17_Make_12))
@[go_sem] theorem b_ingotref17_Make_13_u : Gn X K s b_ingotref17_Make_13 (.seq (.seq r_ingotref17_Make_3 (.cond (.t 14) .skip (.exit 0))) (.seq (.block 1 (.seq r_ingotref17_Make_4 (.seq (.block 2 (.loop b_ingotref17_Make_7)) (.seq (.seq r_ingotref17_Make_8 (.cond (.t 52) (.exit 1) .skip)) (.seq r_ingotref17_Make_9 (.seq r_ingotref17_Make_10 r_ingotref17_Make_11)))))) r_ingotref17_Make_12)) := rfl
@[go_sem] def r_ingotref17_Make_14_o : Ops := [
oo 8 (.asg (.c .nilS))]
def r_ingotref17_Make_14 := rg r_ingotref17_Make_14_o [0, 4, 8]
@[go_sem] theorem r_ingotref17_Make_14_u : Gr X K s r_ingotref17_Make_14 r_ingotref17_Make_14_o [0, 4, 8] := go_region _ _
@[go_sem] def r_ingotref17_Make_15_o : Ops := [
oo 9 (.asg (ci 0))]
def r_ingotref17_Make_15 := rg r_ingotref17_Make_15_o [0, 4, 8, 9]
@[go_sem] theorem r_ingotref17_Make_15_u : Gr X K s r_ingotref17_Make_15 r_ingotref17_Make_15_o [0, 4, 8, 9] := go_region _ _
@[go_sem] def r_ingotref17_Make_16_o : Ops := [
oo 70 (.mv (.t 9)), oo 71 (.mv (.t 0)), oo 72 (.len false (.t 71)), oo 73 (.bin .lss (.t 70) (.t 72))]
def r_ingotref17_Make_16 := rg r_ingotref17_Make_16_o [0, 4, 8, 9, 73]
@[go_sem] theorem r_ingotref17_Make_16_u : Gr X K s r_ingotref17_Make_16 r_ingotref17_Make_16_o [0, 4, 8, 9, 73] := go_region _ _
@[go_sem] def r_ingotref17_Make_17_o : Ops := [
oo 10 (.asg (ci 0))]
def r_ingotref17_Make_17 := rg r_ingotref17_Make_17_o [0, 4, 8, 9, 10]
@[go_sem] theorem r_ingotref17_Make_17_u : Gr X K s r_ingotref17_Make_17 r_ingotref17_Make_17_o [0, 4, 8, 9, 10] := go_region _ _
@[go_sem] def r_ingotref17_Make_18_o : Ops := [
oo 76 (.mv (.t 4)), oo 77 (.mv (.t 10)), oo 78 (.idxA 1 (.t 76) (.t 77)), oo 79 (.load none (.t 78)), oo 80 (.b2s (.t 79)), oo 81 (.mv (.t 0)), oo 82 (.mv (.t 9)), oo 83 (.idxA 1 (.t 81) (.t 82)), oo 84 (.load none (.t 83)), oo 85 (.b2s (.t 84)), oo 86 (.bin .neq (.t 80) (.t 85))]
def r_ingotref17_Make_18_n : List (Nat × Nat) := [(0, 1), (0, 5), (1, 5), (2, 5), (3, 5), (4, 5), (0, 6), (1, 6), (2, 6), (3, 6), (4, 6), (5, 6), (0, 7), (1, 7), (2, 7), (3, 7), (4, 7), (0, 8), (1, 8), (2, 8), (3, 8), (4, 8), (0, 9), (1, 9), (2, 9), (3, 9), (4, 9)]
def r_ingotref17_Make_18 : ICode := .region r_ingotref17_Make_18_o r_ingotref17_Make_18_n [0, 4, 8, 9, 10, 86]
@[go_sem] theorem r_ingotref17_Make_18_u : go X (.c r_ingotref17_Make_18 :: K) s = goRU X [] r_ingotref17_Make_18_n r_ingotref17_Make_18_o [0, 4, 8, 9, 10, 86] K s := go_regionU' _ _ _ _
@[go_sem] def r_ingotref17_Make_19_o : Ops := [
oo 87 (.mv (.t 10)), oo 88 (.bin .add (.t 87) (ci 1)), oo 10 (.asg (.t 88))]
def r_ingotref17_Make_19 := rg r_ingotref17_Make_19_o [0, 4, 8, 9, 10]
@[go_sem] theorem r_ingotref17_Make_19_u : Gr X K s r_ingotref17_Make_19 r_ingotref17_Make_19_o [0, 4, 8, 9, 10] := go_region _ _
def b_ingotref17_Make_20 : ICode := (.seq (.seq r_ingotref17_Make_18 (.cond (.t 86) .skip (.exit 6))) (.block 7 r_ingotref17_Make_19))
@[go_sem] theorem b_ingotref17_Make_20_u : Gn X K s b_ingotref17_Make_20 (.seq (.seq r_ingotref17_Make_18 (.cond (.t 86) .skip (.exit 6))) (.block 7 r_ingotref17_Make_19)) := rfl
@[go_sem] def r_ingotref17_Make_21_o : Ops := [
oo 89 (.mv (.t 8)), oo 90 (.mv (.t 10)), oo 91 (.lit false 1 1 (.int .i64 0) [(0, (.t 90))]), oo 92 (.append 1 8 (.t 89) (.t 91)), oo 8 (.asg (.t 92))]
def r_ingotref17_Make_21 := rg r_ingotref17_Make_21_o [0, 4, 8, 9]
@[go_sem] theorem r_ingotref17_Make_21_u : Gr X K s r_ingotref17_Make_21 r_ingotref17_Make_21_o [0, 4, 8, 9] := go_region _ _
@[go_sem] def r_ingotref17_Make_22_o : Ops := [
oo 74 (.mv (.t 9)), oo 75 (.bin .add (.t 74) (ci 1)), oo 9 (.asg (.t 75))]
def r_ingotref17_Make_22 := rg r_ingotref17_Make_22_o [0, 4, 8, 9]
@[go_sem] theorem r_ingotref17_Make_22_u : Gr X K s r_ingotref17_Make_22 r_ingotref17_Make_22_o [0, 4, 8, 9] := go_region _ _
def b_ingotref17_Make_23 : ICode := (.seq (.seq r_ingotref17_Make_16 (.cond (.t 73) .skip (.exit 4))) (.seq (.block 5 (.seq r_ingotref17_Make_17 (.seq (.block 6 (.loop b_ingotref17_Make_20)) r_ingotref17_Make_21))) r_ingotref17_Make_22))
@[go_sem] theorem b_ingotref17_Make_23_u : Gn X K s b_ingotref17_Make_23 (.seq (.seq r_ingotref17_Make_16 (.cond (.t 73) .skip (.exit 4))) (.seq (.block 5 (.seq r_ingotref17_Make_17 (.seq (.block 6 (.loop b_ingotref17_Make_20)) r_ingotref17_Make_21))) r_ingotref17_Make_22)) := rfl
@[go_sem] def r_ingotref17_Make_24_o : Ops := [
oo 93 (.mv (.t 4)), oo 94 (.mv (.t 8)), oo 2 (.asg (.t 93)), oo 3 (.asg (.t 94))]
def r_ingotref17_Make_24 := rg r_ingotref17_Make_24_o [2, 3]
@[go_sem] theorem r_ingotref17_Make_24_u : Gr X K s r_ingotref17_Make_24 r_ingotref17_Make_24_o [2, 3] := go_region _ _
def c_ingotref17_Make : ICode := (.seq r_ingotref17_Make_0 (.seq r_ingotref17_Make_1 (.seq (.seq r_ingotref17_Make_2 (.block 0 (.loop b_ingotref17_Make_13))) (.seq r_ingotref17_Make_14 (.seq (.seq r_ingotref17_Make_15 (.block 4 (.loop b_ingotref17_Make_23))) (.seq r_ingotref17_Make_24 .ret))))))
def i_ingotref17_Make : IFunc := ⟨1, [.t 2, .t 3], c_ingotref17_Make⟩
def a_ingotref17_Make : Advice := ⟨[53, 57, 64, 92], [(20, [2, 3]), (15, [0, 4, 8, 9]), (19, [0, 4, 8, 9]), (18, [0, 4, 8, 9, 10]), (17, [0, 4, 8, 9, 10, 86]), (16, [0, 4, 8, 9, 10]), (14, [0, 4, 8, 9, 73]), (13, [0, 4, 8, 9]), (12, [0, 4, 8]), (4, [0, 4, 5]), (11, [0, 4, 5]), (10, [0, 4, 5, 6, 7]), (9, [0, 4, 5, 6, 7]), (8, [0, 4, 5, 6, 52]), (7, [0, 4, 5, 6]), (6, [0, 4, 5, 6, 33]), (5, [0, 4, 5, 6]), (3, [0, 4, 5, 14]), (2, [0, 4, 5]), (1, [0, 4]), (0, [0])], [], [], []⟩
/-! ingot/ingotlaw17.few -/
@[go_sem] def r_ingotlaw17_few_0_o : Ops := [
oo 2 (.asg (.c (.bool false)))]
def r_ingotlaw17_few_0 := rg r_ingotlaw17_few_0_o [0]
@[go_sem] theorem r_ingotlaw17_few_0_u : Gr X K s r_ingotlaw17_few_0 r_ingotlaw17_few_0_o [0] := go_region _ _
@[go_sem] def r_ingotlaw17_few_1_o : Ops := [
oo 4 (.mv (.t 0)), oo 5 (.len false (.t 4)), oo 6 (.bin .gtr (.t 5) (ci 150))]
def r_ingotlaw17_few_1 := rg r_ingotlaw17_few_1_o [0, 6]
@[go_sem] theorem r_ingotlaw17_few_1_u : Gr X K s r_ingotlaw17_few_1 r_ingotlaw17_few_1_o [0, 6] := go_region _ _
@[go_sem] def r_ingotlaw17_few_2_o : Ops := [
oo 2 (.asg (.c (.bool false)))]
def r_ingotlaw17_few_2 := rg r_ingotlaw17_few_2_o [2]
@[go_sem] theorem r_ingotlaw17_few_2_u : Gr X K s r_ingotlaw17_few_2 r_ingotlaw17_few_2_o [2] := go_region _ _
@[go_sem] def r_ingotlaw17_few_3_o : Ops := [
oo 3 (.asg (ci 0))]
def r_ingotlaw17_few_3 := rg r_ingotlaw17_few_3_o [0, 3]
@[go_sem] theorem r_ingotlaw17_few_3_u : Gr X K s r_ingotlaw17_few_3 r_ingotlaw17_few_3_o [0, 3] := go_region _ _
@[go_sem] def r_ingotlaw17_few_4_o : Ops := [
oo 7 (.mv (.t 3)), oo 8 (.mv (.t 0)), oo 9 (.len false (.t 8)), oo 10 (.bin .lss (.t 7) (.t 9))]
def r_ingotlaw17_few_4 := rg r_ingotlaw17_few_4_o [0, 3, 10]
@[go_sem] theorem r_ingotlaw17_few_4_u : Gr X K s r_ingotlaw17_few_4 r_ingotlaw17_few_4_o [0, 3, 10] := go_region _ _
@[go_sem] def r_ingotlaw17_few_5_o : Ops := [
oo 13 (.mv (.t 0)), oo 14 (.mv (.t 3)), oo 15 (.idxA 1 (.t 13) (.t 14)), oo 16 (.load none (.t 15)), oo 17 (.len false (.t 16)), oo 18 (.bin .gtr (.t 17) (ci 200))]
def r_ingotlaw17_few_5 := rg r_ingotlaw17_few_5_o [0, 3, 18]
@[go_sem] theorem r_ingotlaw17_few_5_u : Gr X K s r_ingotlaw17_few_5 r_ingotlaw17_few_5_o [0, 3, 18] := go_region _ _
@[go_sem] def r_ingotlaw17_few_6_o : Ops := [
oo 2 (.asg (.c (.bool false)))]
def r_ingotlaw17_few_6 := rg r_ingotlaw17_few_6_o [2]
@[go_sem] theorem r_ingotlaw17_few_6_u : Gr X K s r_ingotlaw17_few_6 r_ingotlaw17_few_6_o [2] := go_region _ _
@[go_sem] def r_ingotlaw17_few_7_o : Ops := [
oo 11 (.mv (.t 3)), oo 12 (.bin .add (.t 11) (ci 1)), oo 3 (.asg (.t 12))]
def r_ingotlaw17_few_7 := rg r_ingotlaw17_few_7_o [0, 3]
@[go_sem] theorem r_ingotlaw17_few_7_u : Gr X K s r_ingotlaw17_few_7 r_ingotlaw17_few_7_o [0, 3] := go_region _ _
def b_ingotlaw17_few_8 : ICode := (.seq (.seq r_ingotlaw17_few_4 (.cond (.t 10) .skip (.exit 0))) (.seq (.block 1 (.seq r_ingotlaw17_few_5 (.cond (.t 18) (.seq r_ingotlaw17_few_6 .ret) .skip))) r_ingotlaw17_few_7))
@[go_sem] theorem b_ingotlaw17_few_8_u : Gn X K s b_ingotlaw17_few_8 (.seq (.seq r_ingotlaw17_few_4 (.cond (.t 10) .skip (.exit 0))) (.seq (.block 1 (.seq r_ingotlaw17_few_5 (.cond (.t 18) (.seq r_ingotlaw17_few_6 .ret) .skip))) r_ingotlaw17_few_7)) := rfl
@[go_sem] def r_ingotlaw17_few_9_o : Ops := [
oo 2 (.asg (.c (.bool true)))]
def r_ingotlaw17_few_9 := rg r_ingotlaw17_few_9_o [2]
@[go_sem] theorem r_ingotlaw17_few_9_u : Gr X K s r_ingotlaw17_few_9 r_ingotlaw17_few_9_o [2] := go_region _ _
def c_ingotlaw17_few : ICode := (.seq r_ingotlaw17_few_0 (.seq r_ingotlaw17_few_1 (.cond (.t 6) (.seq r_ingotlaw17_few_2 .ret) (.seq (.seq r_ingotlaw17_few_3 (.block 0 (.loop b_ingotlaw17_few_8))) (.seq r_ingotlaw17_few_9 .ret)))))
def i_ingotlaw17_few : IFunc := ⟨1, [.t 2], c_ingotlaw17_few⟩
def a_ingotlaw17_few : Advice := ⟨[], [(8, [2]), (5, [0, 3]), (7, [2]), (6, [0, 3, 18]), (4, [0, 3, 10]), (3, [0, 3]), (2, [2]), (1, [0, 6]), (0, [0])], [], [], []⟩
/-! ingot/dict.Worth -/
@[go_sem] def r_dict_Worth_0_o : Ops := [
oo 4 (.asg (.c (.bool false)))]
def r_dict_Worth_0 := rg r_dict_Worth_0_o [0, 1]
@[go_sem] theorem r_dict_Worth_0_u : Gr X K s r_dict_Worth_0 r_dict_Worth_0_o [0, 1] := go_region _ _
@[go_sem] def r_dict_Worth_1_o : Ops := [
oo 5 (.mv (.t 1)), oo 6 (.minmax true [(.t 5), (ci 0)]), oo 7 (.minmax false [(.t 6), (ci 100)]), oo 1 (.asg (.t 7))]
def r_dict_Worth_1 := rg r_dict_Worth_1_o [0, 1]
@[go_sem] theorem r_dict_Worth_1_u : Gr X K s r_dict_Worth_1 r_dict_Worth_1_o [0, 1] := go_region _ _
@[go_sem] def r_dict_Worth_2_o : Ops := [
oo 8 (.mv (.t 0)), oo 9 (.len false (.t 8)), oo 10 (.bin .gtr (.t 9) (ci 0)), oo 11 (.mv (.t 10)), og 12 11 true (.mv (.t 0)), og 13 11 true (.call false n_dict_rising [(.t 12)]), og 14 11 true (.len false (.t 13)), og 15 11 true (.bin .mul (ci 100) (.t 14)), og 16 11 true (.mv (.t 1)), og 17 11 true (.mv (.t 0)), og 18 11 true (.len false (.t 17)), og 19 11 true (.bin .mul (.t 16) (.t 18)), og 20 11 true (.bin .leq (.t 15) (.t 19)), oo 21 (.pick (.t 11) (.t 20) (.c (.bool false))), oo 4 (.asg (.t 21))]
def r_dict_Worth_2 := rg r_dict_Worth_2_o [4]
@[go_sem] theorem r_dict_Worth_2_u : Gr X K s r_dict_Worth_2 r_dict_Worth_2_o [4] := go_region _ _
def c_dict_Worth : ICode := (.seq r_dict_Worth_0 (.seq r_dict_Worth_1 (.seq r_dict_Worth_2 .ret)))
def i_dict_Worth : IFunc := ⟨2, [.t 4], c_dict_Worth⟩
def a_dict_Worth : Advice := ⟨[], [(2, [4]), (1, [0, 1]), (0, [0, 1])], [], [], []⟩
/-! ingot/dict.Cut -/
@[go_sem] def r_dict_Cut_0_o : Ops := [
oo 4 (.asg (.c .nilS)), oo 5 (.asg (ci 0))]
def r_dict_Cut_0 := rg r_dict_Cut_0_o [0, 1]
@[go_sem] theorem r_dict_Cut_0_u : Gr X K s r_dict_Cut_0 r_dict_Cut_0_o [0, 1] := go_region _ _
@[go_sem] def r_dict_Cut_1_o : Ops := [
oo 6 (.asg (.c .nilS))]
def r_dict_Cut_1 := rg r_dict_Cut_1_o [0, 1, 6]
@[go_sem] theorem r_dict_Cut_1_u : Gr X K s r_dict_Cut_1 r_dict_Cut_1_o [0, 1, 6] := go_region _ _
@[go_sem] def r_dict_Cut_2_o : Ops := [
oo 9 (.mv (.t 1)), oo 10 (.len false (.t 9)), oo 11 (.mv (ci 0))]
def r_dict_Cut_2 := rg r_dict_Cut_2_o [0, 6, 9, 10, 11]
@[go_sem] theorem r_dict_Cut_2_u : Gr X K s r_dict_Cut_2 r_dict_Cut_2_o [0, 6, 9, 10, 11] := go_region _ _
@[go_sem] def r_dict_Cut_3_o : Ops := [
oo 12 (.bin .lss (.t 11) (.t 10))]
def r_dict_Cut_3 := rg r_dict_Cut_3_o [0, 6, 9, 10, 11, 12]
@[go_sem] theorem r_dict_Cut_3_u : Gr X K s r_dict_Cut_3 r_dict_Cut_3_o [0, 6, 9, 10, 11, 12] := go_region _ _
@[go_sem] def r_dict_Cut_4_o : Ops := [
oo 13 (.idxA 1 (.t 9) (.t 11)), oo 14 (.load none (.t 13)), oo 8 (.asg (.t 14))]
def r_dict_Cut_4 := rg r_dict_Cut_4_o [0, 6, 8, 9, 10, 11]
@[go_sem] theorem r_dict_Cut_4_u : Gr X K s r_dict_Cut_4 r_dict_Cut_4_o [0, 6, 8, 9, 10, 11] := go_region _ _
@[go_sem] def r_dict_Cut_5_o : Ops := [
oo 16 (.mv (.t 8)), oo 17 (.bin .lss (.t 16) (ci 0)), oo 15 (.asg (.t 17))]
def r_dict_Cut_5 := rg r_dict_Cut_5_o [0, 6, 8, 9, 10, 11, 15]
@[go_sem] theorem r_dict_Cut_5_u : Gr X K s r_dict_Cut_5 r_dict_Cut_5_o [0, 6, 8, 9, 10, 11, 15] := go_region _ _
@[go_sem] def r_dict_Cut_6_o : Ops := [
oo 4 (.asg (.c .nilS)), oo 5 (.asg (ci 2))]
def r_dict_Cut_6 := rg r_dict_Cut_6_o [4, 5]
@[go_sem] theorem r_dict_Cut_6_u : Gr X K s r_dict_Cut_6 r_dict_Cut_6_o [4, 5] := go_region _ _
@[go_sem] def r_dict_Cut_7_o : Ops := [
oo 19 (.mv (.t 8)), oo 20 (.bin .gtr (.t 19) (ci 4096)), oo 18 (.asg (.t 20))]
def r_dict_Cut_7 := rg r_dict_Cut_7_o [0, 6, 8, 9, 10, 11, 18]
@[go_sem] theorem r_dict_Cut_7_u : Gr X K s r_dict_Cut_7 r_dict_Cut_7_o [0, 6, 8, 9, 10, 11, 18] := go_region _ _
@[go_sem] def r_dict_Cut_8_o : Ops := [
oo 4 (.asg (.c .nilS)), oo 5 (.asg (ci 4))]
def r_dict_Cut_8 := rg r_dict_Cut_8_o [4, 5]
@[go_sem] theorem r_dict_Cut_8_u : Gr X K s r_dict_Cut_8 r_dict_Cut_8_o [4, 5] := go_region _ _
@[go_sem] def r_dict_Cut_9_o : Ops := [
oo 22 (.mv (.t 8)), oo 23 (.mv (.t 0)), oo 24 (.len false (.t 23)), oo 25 (.bin .gtr (.t 22) (.t 24)), oo 21 (.asg (.t 25))]
def r_dict_Cut_9 := rg r_dict_Cut_9_o [0, 6, 8, 9, 10, 11, 21]
@[go_sem] theorem r_dict_Cut_9_u : Gr X K s r_dict_Cut_9 r_dict_Cut_9_o [0, 6, 8, 9, 10, 11, 21] := go_region _ _
@[go_sem] def r_dict_Cut_10_o : Ops := [
oo 4 (.asg (.c .nilS)), oo 5 (.asg (ci 3))]
def r_dict_Cut_10 := rg r_dict_Cut_10_o [4, 5]
@[go_sem] theorem r_dict_Cut_10_u : Gr X K s r_dict_Cut_10 r_dict_Cut_10_o [4, 5] := go_region _ _
@[go_sem] def r_dict_Cut_11_o : Ops := [
oo 26 (.mv (.t 6)), oo 27 (.mv (.t 0)), oo 28 (.mv (.t 8)), oo 29 (.slice 1 (.t 27) none (some (.t 28)) none), oo 30 (.call false n_slices_Clone_Sbyte_byte [(.t 29)]), oo 31 (.call false n_slices_Clip_Sbyte_byte [(.t 30)]), oo 32 (.lit false 1 1 (.sl []) [(0, (.t 31))]), oo 33 (.append 1 24 (.t 26) (.t 32)), oo 6 (.asg (.t 33))]
def r_dict_Cut_11 := rg r_dict_Cut_11_o [0, 6, 8, 9, 10, 11]
@[go_sem] theorem r_dict_Cut_11_u : Gr X K s r_dict_Cut_11 r_dict_Cut_11_o [0, 6, 8, 9, 10, 11] := go_region _ _
@[go_sem] def r_dict_Cut_12_o : Ops := [
oo 34 (.mv (.t 0)), oo 35 (.mv (.t 8)), oo 36 (.slice 1 (.t 34) (some (.t 35)) none none), oo 0 (.asg (.t 36))]
def r_dict_Cut_12 := rg r_dict_Cut_12_o [0, 6, 9, 10, 11]
@[go_sem] theorem r_dict_Cut_12_u : Gr X K s r_dict_Cut_12 r_dict_Cut_12_o [0, 6, 9, 10, 11] := go_region _ _
@[go_sem] def r_dict_Cut_13_o : Ops := [
oo 37 (.bin .add (.t 11) (ci 1)), oo 11 (.mv (.t 37))]
def r_dict_Cut_13 := rg r_dict_Cut_13_o [0, 6, 9, 10, 11]
@[go_sem] theorem r_dict_Cut_13_u : Gr X K s r_dict_Cut_13 r_dict_Cut_13_o [0, 6, 9, 10, 11] := go_region _ _
def b_dict_Cut_14 : ICode := (.seq r_dict_Cut_3 (.seq (.cond (.t 12) .skip (.exit 0)) (.seq (.block 1 (.seq r_dict_Cut_4 (.seq (.block 2 (.seq r_dict_Cut_5 (.cond (.t 15) (.seq r_dict_Cut_6 .ret) (.seq r_dict_Cut_7 (.cond (.t 18) (.seq r_dict_Cut_8 .ret) (.seq r_dict_Cut_9 (.cond (.t 21) (.seq r_dict_Cut_10 .ret) .skip))))))) (.seq r_dict_Cut_11 r_dict_Cut_12)))) r_dict_Cut_13)))
@[go_sem] theorem b_dict_Cut_14_u : Gn X K s b_dict_Cut_14 (.seq r_dict_Cut_3 (.seq (.cond (.t 12) .skip (.exit 0)) (.seq (.block 1 (.seq r_dict_Cut_4 (.seq (.block 2 (.seq r_dict_Cut_5 (.cond (.t 15) (.seq r_dict_Cut_6 .ret) (.seq r_dict_Cut_7 (.cond (.t 18) (.seq r_dict_Cut_8 .ret) (.seq r_dict_Cut_9 (.cond (.t 21) (.seq r_dict_Cut_10 .ret) .skip))))))) (.seq r_dict_Cut_11 r_dict_Cut_12)))) r_dict_Cut_13))) := rfl
@[go_sem] def r_dict_Cut_15_o : Ops := [
oo 38 (.mv (.t 0)), oo 39 (.len false (.t 38)), oo 40 (.bin .gtr (.t 39) (ci 0))]
def r_dict_Cut_15 := rg r_dict_Cut_15_o [6, 40]
@[go_sem] theorem r_dict_Cut_15_u : Gr X K s r_dict_Cut_15 r_dict_Cut_15_o [6, 40] := go_region _ _
@[go_sem] def r_dict_Cut_16_o : Ops := [
oo 4 (.asg (.c .nilS)), oo 5 (.asg (ci 2))]
def r_dict_Cut_16 := rg r_dict_Cut_16_o [4, 5]
@[go_sem] theorem r_dict_Cut_16_u : Gr X K s r_dict_Cut_16 r_dict_Cut_16_o [4, 5] := go_region _ _
@[go_sem] def r_dict_Cut_17_o : Ops := [
oo 41 (.mv (.t 6)), oo 42 (.call false n_slices_Clip_SSbyte_Sbyte [(.t 41)]), oo 4 (.asg (.t 42)), oo 5 (.asg (ci 0))]
def r_dict_Cut_17 := rg r_dict_Cut_17_o [4, 5]
@[go_sem] theorem r_dict_Cut_17_u : Gr X K s r_dict_Cut_17 r_dict_Cut_17_o [4, 5] := go_region _ _
def c_dict_Cut : ICode := (.seq r_dict_Cut_0 (.seq r_dict_Cut_1 (.seq (.seq r_dict_Cut_2 (.block 0 (.loop b_dict_Cut_14))) (.seq r_dict_Cut_15 (.cond (.t 40) (.seq r_dict_Cut_16 .ret) (.seq r_dict_Cut_17 .ret))))))
def i_dict_Cut : IFunc := ⟨2, [.t 4, .t 5], c_dict_Cut⟩
def a_dict_Cut : Advice := ⟨[33], [(16, [4, 5]), (15, [4, 5]), (14, [6, 40]), (13, [0, 6, 9, 10, 11]), (12, [0, 6, 9, 10, 11]), (11, [0, 6, 8, 9, 10, 11]), (6, [4, 5]), (8, [4, 5]), (10, [4, 5]), (9, [0, 6, 8, 9, 10, 11, 21]), (7, [0, 6, 8, 9, 10, 11, 18]), (5, [0, 6, 8, 9, 10, 11, 15]), (4, [0, 6, 8, 9, 10, 11]), (3, [0, 6, 9, 10, 11, 12]), (2, [0, 6, 9, 10, 11]), (1, [0, 1, 6]), (0, [0, 1])], [], [], []⟩
/-! bytes.Join -/
@[go_sem] def r_bytes_Join_0_o : Ops := [
oo 4 (.asg (.c .nilS))]
def r_bytes_Join_0 := rg r_bytes_Join_0_o [0, 1]
@[go_sem] theorem r_bytes_Join_0_u : Gr X K s r_bytes_Join_0 r_bytes_Join_0_o [0, 1] := go_region _ _
@[go_sem] def r_bytes_Join_1_o : Ops := [
oo 12 (.mv (.t 0)), oo 13 (.len false (.t 12)), oo 14 (.bin .eql (.t 13) (ci 0))]
def r_bytes_Join_1 := rg r_bytes_Join_1_o [0, 1, 14]
@[go_sem] theorem r_bytes_Join_1_u : Gr X K s r_bytes_Join_1 r_bytes_Join_1_o [0, 1, 14] := go_region _ _
@[go_sem] def r_bytes_Join_2_o : Ops := [
oo 15 (.lit false 1 0 (.int .u8 0) []), oo 4 (.asg (.t 15))]
def r_bytes_Join_2 := rg r_bytes_Join_2_o [4]
@[go_sem] theorem r_bytes_Join_2_u : Gr X K s r_bytes_Join_2 r_bytes_Join_2_o [4] := go_region _ _
@[go_sem] def r_bytes_Join_3_o : Ops := [
oo 16 (.mv (.t 0)), oo 17 (.len false (.t 16)), oo 18 (.bin .eql (.t 17) (ci 1))]
def r_bytes_Join_3 := rg r_bytes_Join_3_o [0, 1, 18]
@[go_sem] theorem r_bytes_Join_3_u : Gr X K s r_bytes_Join_3 r_bytes_Join_3_o [0, 1, 18] := go_region _ _
@[go_sem] def r_bytes_Join_4_o : Ops := [
oo 19 (.mv (.t 0)), oo 20 (.idxA 1 (.t 19) (ci 0)), oo 21 (.load none (.t 20)), oo 22 (.append 1 1 (.c .nilS) (.t 21)), oo 4 (.asg (.t 22))]
def r_bytes_Join_4 := rg r_bytes_Join_4_o [4]
@[go_sem] theorem r_bytes_Join_4_u : Gr X K s r_bytes_Join_4 r_bytes_Join_4_o [4] := go_region _ _
@[go_sem] def r_bytes_Join_5_o : Ops := [
oo 5 (.asg (ci 0))]
def r_bytes_Join_5 := rg r_bytes_Join_5_o [0, 1, 5]
@[go_sem] theorem r_bytes_Join_5_u : Gr X K s r_bytes_Join_5 r_bytes_Join_5_o [0, 1, 5] := go_region _ _
@[go_sem] def r_bytes_Join_6_o : Ops := [
oo 23 (.mv (.t 1)), oo 24 (.len false (.t 23)), oo 25 (.bin .gtr (.t 24) (ci 0))]
def r_bytes_Join_6 := rg r_bytes_Join_6_o [0, 1, 5, 25]
@[go_sem] theorem r_bytes_Join_6_u : Gr X K s r_bytes_Join_6 r_bytes_Join_6_o [0, 1, 5, 25] := go_region _ _
@[go_sem] def r_bytes_Join_7_o : Ops := [
oo 26 (.mv (.t 1)), oo 27 (.len false (.t 26)), oo 28 (.mv (.t 0)), oo 29 (.len false (.t 28)), oo 30 (.bin .sub (.t 29) (ci 1)), oo 31 (.bin .quo (ci 9223372036854775807) (.t 30)), oo 32 (.bin .geq (.t 27) (.t 31))]
def r_bytes_Join_7 := rg r_bytes_Join_7_o [0, 1, 5, 32]
@[go_sem] theorem r_bytes_Join_7_u : Gr X K s r_bytes_Join_7 r_bytes_Join_7_o [0, 1, 5, 32] := go_region _ _
@[go_sem] def r_bytes_Join_8_o : Ops := [
oo 33 (.mkI t_string (.c (.str [98, 121, 116, 101, 115, 58, 32, 74, 111, 105, 110, 32, 111, 117, 116, 112, 117, 116, 32, 108, 101, 110, 103, 116, 104, 32, 111, 118, 101, 114, 102, 108, 111, 119]))), ow (.bad)]
def r_bytes_Join_8 := rg r_bytes_Join_8_o [0, 1, 5]
@[go_sem] theorem r_bytes_Join_8_u : Gr X K s r_bytes_Join_8 r_bytes_Join_8_o [0, 1, 5] := go_region _ _
@[go_sem] def r_bytes_Join_9_o : Ops := [
oo 34 (.mv (.t 5)), oo 35 (.mv (.t 1)), oo 36 (.len false (.t 35)), oo 37 (.mv (.t 0)), oo 38 (.len false (.t 37)), oo 39 (.bin .sub (.t 38) (ci 1)), oo 40 (.bin .mul (.t 36) (.t 39)), oo 41 (.bin .add (.t 34) (.t 40)), oo 5 (.asg (.t 41))]
def r_bytes_Join_9 := rg r_bytes_Join_9_o [0, 1, 5]
@[go_sem] theorem r_bytes_Join_9_u : Gr X K s r_bytes_Join_9 r_bytes_Join_9_o [0, 1, 5] := go_region _ _
@[go_sem] def r_bytes_Join_10_o : Ops := [
oo 42 (.mv (.t 0)), oo 43 (.len false (.t 42)), oo 44 (.mv (ci 0))]
def r_bytes_Join_10 := rg r_bytes_Join_10_o [0, 1, 5, 42, 43, 44]
@[go_sem] theorem r_bytes_Join_10_u : Gr X K s r_bytes_Join_10 r_bytes_Join_10_o [0, 1, 5, 42, 43, 44] := go_region _ _
@[go_sem] def r_bytes_Join_11_o : Ops := [
oo 45 (.bin .lss (.t 44) (.t 43))]
def r_bytes_Join_11 := rg r_bytes_Join_11_o [0, 1, 5, 42, 43, 44, 45]
@[go_sem] theorem r_bytes_Join_11_u : Gr X K s r_bytes_Join_11 r_bytes_Join_11_o [0, 1, 5, 42, 43, 44, 45] := go_region _ _
@[go_sem] def r_bytes_Join_12_o : Ops := [
oo 46 (.idxA 1 (.t 42) (.t 44)), oo 47 (.load none (.t 46)), oo 7 (.asg (.t 47))]
def r_bytes_Join_12 := rg r_bytes_Join_12_o [0, 1, 5, 7, 42, 43, 44]
@[go_sem] theorem r_bytes_Join_12_u : Gr X K s r_bytes_Join_12 r_bytes_Join_12_o [0, 1, 5, 7, 42, 43, 44] := go_region _ _
@[go_sem] def r_bytes_Join_13_o : Ops := [
oo 48 (.mv (.t 7)), oo 49 (.len false (.t 48)), oo 50 (.mv (.t 5)), oo 51 (.bin .sub (ci 9223372036854775807) (.t 50)), oo 52 (.bin .gtr (.t 49) (.t 51))]
def r_bytes_Join_13 := rg r_bytes_Join_13_o [0, 1, 5, 7, 42, 43, 44, 52]
@[go_sem] theorem r_bytes_Join_13_u : Gr X K s r_bytes_Join_13 r_bytes_Join_13_o [0, 1, 5, 7, 42, 43, 44, 52] := go_region _ _
@[go_sem] def r_bytes_Join_14_o : Ops := [
oo 53 (.mkI t_string (.c (.str [98, 121, 116, 101, 115, 58, 32, 74, 111, 105, 110, 32, 111, 117, 116, 112, 117, 116, 32, 108, 101, 110, 103, 116, 104, 32, 111, 118, 101, 114, 102, 108, 111, 119]))), ow (.bad)]
def r_bytes_Join_14 := rg r_bytes_Join_14_o [0, 1, 5, 7, 42, 43, 44]
@[go_sem] theorem r_bytes_Join_14_u : Gr X K s r_bytes_Join_14 r_bytes_Join_14_o [0, 1, 5, 7, 42, 43, 44] := go_region _ _
@[go_sem] def r_bytes_Join_15_o : Ops := [
oo 54 (.mv (.t 5)), oo 55 (.mv (.t 7)), oo 56 (.len false (.t 55)), oo 57 (.bin .add (.t 54) (.t 56)), oo 5 (.asg (.t 57))]
def r_bytes_Join_15 := rg r_bytes_Join_15_o [0, 1, 5, 42, 43, 44]
@[go_sem] theorem r_bytes_Join_15_u : Gr X K s r_bytes_Join_15 r_bytes_Join_15_o [0, 1, 5, 42, 43, 44] := go_region _ _
@[go_sem] def r_bytes_Join_16_o : Ops := [
oo 58 (.bin .add (.t 44) (ci 1)), oo 44 (.mv (.t 58))]
def r_bytes_Join_16 := rg r_bytes_Join_16_o [0, 1, 5, 42, 43, 44]
@[go_sem] theorem r_bytes_Join_16_u : Gr X K s r_bytes_Join_16 r_bytes_Join_16_o [0, 1, 5, 42, 43, 44] := go_region _ _
def b_bytes_Join_17 : ICode := (.seq r_bytes_Join_11 (.seq (.cond (.t 45) .skip (.exit 0)) (.seq (.block 1 (.seq r_bytes_Join_12 (.seq (.seq r_bytes_Join_13 (.cond (.t 52) r_bytes_Join_14 .skip)) r_bytes_Join_15))) r_bytes_Join_16)))
@[go_sem] theorem b_bytes_Join_17_u : Gn X K s b_bytes_Join_17 (.seq r_bytes_Join_11 (.seq (.cond (.t 45) .skip (.exit 0)) (.seq (.block 1 (.seq r_bytes_Join_12 (.seq (.seq r_bytes_Join_13 (.cond (.t 52) r_bytes_Join_14 .skip)) r_bytes_Join_15))) r_bytes_Join_16))) := rfl
@[go_sem] def r_bytes_Join_18_o : Ops := [
oo 59 (.mv (.t 5)), oo 60 (.call true n_bytealg_MakeNoZero [(.t 59)]), oo 61 (.mv (.t 5)), oo 62 (.mv (.t 5)), oo 63 (.slice 1 (.t 60) none (some (.t 61)) (some (.t 62))), oo 8 (.asg (.t 63))]
def r_bytes_Join_18 := rg r_bytes_Join_18_o [0, 1, 8]
@[go_sem] theorem r_bytes_Join_18_u : Gr X K s r_bytes_Join_18 r_bytes_Join_18_o [0, 1, 8] := go_region _ _
@[go_sem] def r_bytes_Join_19_o : Ops := [
oo 64 (.mv (.t 8)), oo 65 (.mv (.t 0)), oo 66 (.idxA 1 (.t 65) (ci 0)), oo 67 (.load none (.t 66)), oo 68 (.copy 1 (.t 64) (.t 67)), oo 9 (.asg (.t 68))]
def r_bytes_Join_19 := rg r_bytes_Join_19_o [0, 1, 8, 9]
@[go_sem] theorem r_bytes_Join_19_u : Gr X K s r_bytes_Join_19 r_bytes_Join_19_o [0, 1, 8, 9] := go_region _ _
@[go_sem] def r_bytes_Join_20_o : Ops := [
oo 69 (.mv (.t 0)), oo 70 (.slice 1 (.t 69) (some (ci 1)) none none), oo 71 (.len false (.t 70)), oo 72 (.mv (ci 0))]
def r_bytes_Join_20 := rg r_bytes_Join_20_o [1, 8, 9, 70, 71, 72]
@[go_sem] theorem r_bytes_Join_20_u : Gr X K s r_bytes_Join_20 r_bytes_Join_20_o [1, 8, 9, 70, 71, 72] := go_region _ _
@[go_sem] def r_bytes_Join_21_o : Ops := [
oo 73 (.bin .lss (.t 72) (.t 71))]
def r_bytes_Join_21 := rg r_bytes_Join_21_o [1, 8, 9, 70, 71, 72, 73]
@[go_sem] theorem r_bytes_Join_21_u : Gr X K s r_bytes_Join_21 r_bytes_Join_21_o [1, 8, 9, 70, 71, 72, 73] := go_region _ _
@[go_sem] def r_bytes_Join_22_o : Ops := [
oo 74 (.idxA 1 (.t 70) (.t 72)), oo 75 (.load none (.t 74)), oo 11 (.asg (.t 75))]
def r_bytes_Join_22 := rg r_bytes_Join_22_o [1, 8, 9, 11, 70, 71, 72]
@[go_sem] theorem r_bytes_Join_22_u : Gr X K s r_bytes_Join_22 r_bytes_Join_22_o [1, 8, 9, 11, 70, 71, 72] := go_region _ _
@[go_sem] def r_bytes_Join_23_o : Ops := [
oo 76 (.mv (.t 9)), oo 77 (.mv (.t 8)), oo 78 (.mv (.t 9)), oo 79 (.slice 1 (.t 77) (some (.t 78)) none none), oo 80 (.mv (.t 1)), oo 81 (.copy 1 (.t 79) (.t 80)), oo 82 (.bin .add (.t 76) (.t 81)), oo 9 (.asg (.t 82))]
def r_bytes_Join_23 := rg r_bytes_Join_23_o [1, 8, 9, 11, 70, 71, 72]
@[go_sem] theorem r_bytes_Join_23_u : Gr X K s r_bytes_Join_23 r_bytes_Join_23_o [1, 8, 9, 11, 70, 71, 72] := go_region _ _
@[go_sem] def r_bytes_Join_24_o : Ops := [
oo 83 (.mv (.t 9)), oo 84 (.mv (.t 8)), oo 85 (.mv (.t 9)), oo 86 (.slice 1 (.t 84) (some (.t 85)) none none), oo 87 (.mv (.t 11)), oo 88 (.copy 1 (.t 86) (.t 87)), oo 89 (.bin .add (.t 83) (.t 88)), oo 9 (.asg (.t 89))]
def r_bytes_Join_24 := rg r_bytes_Join_24_o [1, 8, 9, 70, 71, 72]
@[go_sem] theorem r_bytes_Join_24_u : Gr X K s r_bytes_Join_24 r_bytes_Join_24_o [1, 8, 9, 70, 71, 72] := go_region _ _
@[go_sem] def r_bytes_Join_25_o : Ops := [
oo 90 (.bin .add (.t 72) (ci 1)), oo 72 (.mv (.t 90))]
def r_bytes_Join_25 := rg r_bytes_Join_25_o [1, 8, 9, 70, 71, 72]
@[go_sem] theorem r_bytes_Join_25_u : Gr X K s r_bytes_Join_25 r_bytes_Join_25_o [1, 8, 9, 70, 71, 72] := go_region _ _
def b_bytes_Join_26 : ICode := (.seq r_bytes_Join_21 (.seq (.cond (.t 73) .skip (.exit 2)) (.seq (.block 3 (.seq r_bytes_Join_22 (.seq r_bytes_Join_23 r_bytes_Join_24))) r_bytes_Join_25)))
@[go_sem] theorem b_bytes_Join_26_u : Gn X K s b_bytes_Join_26 (.seq r_bytes_Join_21 (.seq (.cond (.t 73) .skip (.exit 2)) (.seq (.block 3 (.seq r_bytes_Join_22 (.seq r_bytes_Join_23 r_bytes_Join_24))) r_bytes_Join_25))) := rfl
@[go_sem] def r_bytes_Join_27_o : Ops := [
oo 91 (.mv (.t 8)), oo 4 (.asg (.t 91))]
def r_bytes_Join_27 := rg r_bytes_Join_27_o [4]
@[go_sem] theorem r_bytes_Join_27_u : Gr X K s r_bytes_Join_27 r_bytes_Join_27_o [4] := go_region _ _
def c_bytes_Join : ICode := (.seq r_bytes_Join_0 (.seq r_bytes_Join_1 (.cond (.t 14) (.seq r_bytes_Join_2 .ret) (.seq r_bytes_Join_3 (.cond (.t 18) (.seq r_bytes_Join_4 .ret) (.seq r_bytes_Join_5 (.seq (.seq r_bytes_Join_6 (.cond (.t 25) (.seq (.seq r_bytes_Join_7 (.cond (.t 32) r_bytes_Join_8 .skip)) r_bytes_Join_9) .skip)) (.seq (.seq r_bytes_Join_10 (.block 0 (.loop b_bytes_Join_17))) (.seq r_bytes_Join_18 (.seq r_bytes_Join_19 (.seq (.seq r_bytes_Join_20 (.block 2 (.loop b_bytes_Join_26))) (.seq r_bytes_Join_27 .ret))))))))))))
def i_bytes_Join : IFunc := ⟨2, [.t 4], c_bytes_Join⟩
def a_bytes_Join : Advice := ⟨[60], [(25, [4]), (24, [1, 8, 9, 70, 71, 72]), (23, [1, 8, 9, 70, 71, 72]), (22, [1, 8, 9, 11, 70, 71, 72]), (21, [1, 8, 9, 11, 70, 71, 72]), (20, [1, 8, 9, 70, 71, 72, 73]), (19, [1, 8, 9, 70, 71, 72]), (18, [0, 1, 8, 9]), (17, [0, 1, 8]), (16, [0, 1, 5, 42, 43, 44]), (15, [0, 1, 5, 42, 43, 44]), (14, [0, 1, 5, 7, 42, 43, 44]), (13, [0, 1, 5, 7, 42, 43, 44, 52]), (12, [0, 1, 5, 7, 42, 43, 44]), (11, [0, 1, 5, 42, 43, 44, 45]), (10, [0, 1, 5, 42, 43, 44]), (9, [0, 1, 5]), (8, [0, 1, 5]), (7, [0, 1, 5, 32]), (6, [0, 1, 5, 25]), (5, [0, 1, 5]), (4, [4]), (3, [0, 1, 18]), (2, [4]), (1, [0, 1, 14]), (0, [0, 1])], [], [], []⟩
/-! ingot/dict.Join -/
@[go_sem] def r_dict_Join_0_o : Ops := [
oo 2 (.asg (.c .nilS)), oo 3 (.asg (.c .nilS))]
def r_dict_Join_0 := rg r_dict_Join_0_o [0]
@[go_sem] theorem r_dict_Join_0_u : Gr X K s r_dict_Join_0 r_dict_Join_0_o [0] := go_region _ _
@[go_sem] def r_dict_Join_1_o : Ops := [
oo 7 (.mv (.t 0)), oo 8 (.len false (.t 7)), oo 9 (.mkS 1 8 (.int .i64 0) (ci 0) (.t 8)), oo 4 (.asg (.t 9))]
def r_dict_Join_1 := rg r_dict_Join_1_o [0, 4]
@[go_sem] theorem r_dict_Join_1_u : Gr X K s r_dict_Join_1 r_dict_Join_1_o [0, 4] := go_region _ _
@[go_sem] def r_dict_Join_2_o : Ops := [
oo 10 (.mv (.t 0)), oo 11 (.len false (.t 10)), oo 12 (.mv (ci 0))]
def r_dict_Join_2 := rg r_dict_Join_2_o [0, 4, 10, 11, 12]
@[go_sem] theorem r_dict_Join_2_u : Gr X K s r_dict_Join_2 r_dict_Join_2_o [0, 4, 10, 11, 12] := go_region _ _
@[go_sem] def r_dict_Join_3_o : Ops := [
oo 13 (.bin .lss (.t 12) (.t 11))]
def r_dict_Join_3 := rg r_dict_Join_3_o [0, 4, 10, 11, 12, 13]
@[go_sem] theorem r_dict_Join_3_u : Gr X K s r_dict_Join_3 r_dict_Join_3_o [0, 4, 10, 11, 12, 13] := go_region _ _
@[go_sem] def r_dict_Join_4_o : Ops := [
oo 14 (.idxA 1 (.t 10) (.t 12)), oo 15 (.load none (.t 14)), oo 6 (.asg (.t 15))]
def r_dict_Join_4 := rg r_dict_Join_4_o [0, 4, 6, 10, 11, 12]
@[go_sem] theorem r_dict_Join_4_u : Gr X K s r_dict_Join_4 r_dict_Join_4_o [0, 4, 6, 10, 11, 12] := go_region _ _
@[go_sem] def r_dict_Join_5_o : Ops := [
oo 16 (.mv (.t 4)), oo 17 (.mv (.t 6)), oo 18 (.len false (.t 17)), oo 19 (.lit false 1 1 (.int .i64 0) [(0, (.t 18))]), oo 20 (.append 1 8 (.t 16) (.t 19)), oo 4 (.asg (.t 20))]
def r_dict_Join_5 := rg r_dict_Join_5_o [0, 4, 10, 11, 12]
@[go_sem] theorem r_dict_Join_5_u : Gr X K s r_dict_Join_5 r_dict_Join_5_o [0, 4, 10, 11, 12] := go_region _ _
@[go_sem] def r_dict_Join_6_o : Ops := [
oo 21 (.bin .add (.t 12) (ci 1)), oo 12 (.mv (.t 21))]
def r_dict_Join_6 := rg r_dict_Join_6_o [0, 4, 10, 11, 12]
@[go_sem] theorem r_dict_Join_6_u : Gr X K s r_dict_Join_6 r_dict_Join_6_o [0, 4, 10, 11, 12] := go_region _ _
def b_dict_Join_7 : ICode := (.seq r_dict_Join_3 (.seq (.cond (.t 13) .skip (.exit 0)) (.seq (.block 1 (.seq r_dict_Join_4 r_dict_Join_5)) r_dict_Join_6)))
@[go_sem] theorem b_dict_Join_7_u : Gn X K s b_dict_Join_7 (.seq r_dict_Join_3 (.seq (.cond (.t 13) .skip (.exit 0)) (.seq (.block 1 (.seq r_dict_Join_4 r_dict_Join_5)) r_dict_Join_6))) := rfl
@[go_sem] def r_dict_Join_8_o : Ops := [
oo 22 (.mv (.t 0)), oo 23 (.call false n_bytes_Join [(.t 22), (.c .nilS)]), oo 24 (.call false n_slices_Clip_Sbyte_byte [(.t 23)]), oo 25 (.mv (.t 4)), oo 2 (.asg (.t 24)), oo 3 (.asg (.t 25))]
def r_dict_Join_8 := rg r_dict_Join_8_o [2, 3]
@[go_sem] theorem r_dict_Join_8_u : Gr X K s r_dict_Join_8 r_dict_Join_8_o [2, 3] := go_region _ _
def c_dict_Join : ICode := (.seq r_dict_Join_0 (.seq r_dict_Join_1 (.seq (.seq r_dict_Join_2 (.block 0 (.loop b_dict_Join_7))) (.seq r_dict_Join_8 .ret))))
def i_dict_Join : IFunc := ⟨1, [.t 2, .t 3], c_dict_Join⟩
def a_dict_Join : Advice := ⟨[20], [(7, [2, 3]), (6, [0, 4, 10, 11, 12]), (5, [0, 4, 10, 11, 12]), (4, [0, 4, 6, 10, 11, 12]), (3, [0, 4, 10, 11, 12, 13]), (2, [0, 4, 10, 11, 12]), (1, [0, 4]), (0, [0])], [], [], []⟩
/-! ingot/dict.Expand -/
@[go_sem] def r_dict_Expand_0_o : Ops := [
oo 4 (.asg (.c .nilS)), oo 5 (.asg (ci 0))]
def r_dict_Expand_0 := rg r_dict_Expand_0_o [0, 1]
@[go_sem] theorem r_dict_Expand_0_u : Gr X K s r_dict_Expand_0 r_dict_Expand_0_o [0, 1] := go_region _ _
@[go_sem] def r_dict_Expand_1_o : Ops := [
oo 9 (.mv (.t 1)), oo 10 (.len false (.t 9)), oo 11 (.mkS 1 24 (.sl []) (ci 0) (.t 10)), oo 6 (.asg (.t 11))]
def r_dict_Expand_1 := rg r_dict_Expand_1_o [0, 1, 6]
@[go_sem] theorem r_dict_Expand_1_u : Gr X K s r_dict_Expand_1 r_dict_Expand_1_o [0, 1, 6] := go_region _ _
@[go_sem] def r_dict_Expand_2_o : Ops := [
oo 12 (.mv (.t 1)), oo 13 (.len false (.t 12)), oo 14 (.mv (ci 0))]
def r_dict_Expand_2 := rg r_dict_Expand_2_o [0, 6, 12, 13, 14]
@[go_sem] theorem r_dict_Expand_2_u : Gr X K s r_dict_Expand_2 r_dict_Expand_2_o [0, 6, 12, 13, 14] := go_region _ _
@[go_sem] def r_dict_Expand_3_o : Ops := [
oo 15 (.bin .lss (.t 14) (.t 13))]
def r_dict_Expand_3 := rg r_dict_Expand_3_o [0, 6, 12, 13, 14, 15]
@[go_sem] theorem r_dict_Expand_3_u : Gr X K s r_dict_Expand_3 r_dict_Expand_3_o [0, 6, 12, 13, 14, 15] := go_region _ _
@[go_sem] def r_dict_Expand_4_o : Ops := [
oo 16 (.idxA 1 (.t 12) (.t 14)), oo 17 (.load none (.t 16)), oo 8 (.asg (.t 17))]
def r_dict_Expand_4 := rg r_dict_Expand_4_o [0, 6, 8, 12, 13, 14]
@[go_sem] theorem r_dict_Expand_4_u : Gr X K s r_dict_Expand_4 r_dict_Expand_4_o [0, 6, 8, 12, 13, 14] := go_region _ _
@[go_sem] def r_dict_Expand_5_o : Ops := [
oo 18 (.mv (.t 8)), oo 19 (.bin .lss (.t 18) (ci 0)), oo 20 (.mv (.t 19)), og 21 20 false (.mv (.t 8)), og 22 20 false (.mv (.t 0)), og 23 20 false (.len false (.t 22)), og 24 20 false (.bin .geq (.t 21) (.t 23)), oo 25 (.pick (.t 20) (.c (.bool true)) (.t 24))]
def r_dict_Expand_5 := rg r_dict_Expand_5_o [0, 6, 8, 12, 13, 14, 25]
@[go_sem] theorem r_dict_Expand_5_u : Gr X K s r_dict_Expand_5 r_dict_Expand_5_o [0, 6, 8, 12, 13, 14, 25] := go_region _ _
@[go_sem] def r_dict_Expand_6_o : Ops := [
oo 4 (.asg (.c .nilS)), oo 5 (.asg (ci 2))]
def r_dict_Expand_6 := rg r_dict_Expand_6_o [4, 5]
@[go_sem] theorem r_dict_Expand_6_u : Gr X K s r_dict_Expand_6 r_dict_Expand_6_o [4, 5] := go_region _ _
@[go_sem] def r_dict_Expand_7_o : Ops := [
oo 26 (.mv (.t 6)), oo 27 (.mv (.t 0)), oo 28 (.mv (.t 8)), oo 29 (.idxA 1 (.t 27) (.t 28)), oo 30 (.load none (.t 29)), oo 31 (.call false n_slices_Clone_Sbyte_byte [(.t 30)]), oo 32 (.call false n_slices_Clip_Sbyte_byte [(.t 31)]), oo 33 (.lit false 1 1 (.sl []) [(0, (.t 32))]), oo 34 (.append 1 24 (.t 26) (.t 33)), oo 6 (.asg (.t 34))]
def r_dict_Expand_7 := rg r_dict_Expand_7_o [0, 6, 12, 13, 14]
@[go_sem] theorem r_dict_Expand_7_u : Gr X K s r_dict_Expand_7 r_dict_Expand_7_o [0, 6, 12, 13, 14] := go_region _ _
@[go_sem] def r_dict_Expand_8_o : Ops := [
oo 35 (.bin .add (.t 14) (ci 1)), oo 14 (.mv (.t 35))]
def r_dict_Expand_8 := rg r_dict_Expand_8_o [0, 6, 12, 13, 14]
@[go_sem] theorem r_dict_Expand_8_u : Gr X K s r_dict_Expand_8 r_dict_Expand_8_o [0, 6, 12, 13, 14] := go_region _ _
def b_dict_Expand_9 : ICode := (.seq r_dict_Expand_3 (.seq (.cond (.t 15) .skip (.exit 0)) (.seq (.block 1 (.seq r_dict_Expand_4 (.seq (.seq r_dict_Expand_5 (.cond (.t 25) (.seq r_dict_Expand_6 .ret) .skip)) r_dict_Expand_7))) r_dict_Expand_8)))
@[go_sem] theorem b_dict_Expand_9_u : Gn X K s b_dict_Expand_9 (.seq r_dict_Expand_3 (.seq (.cond (.t 15) .skip (.exit 0)) (.seq (.block 1 (.seq r_dict_Expand_4 (.seq (.seq r_dict_Expand_5 (.cond (.t 25) (.seq r_dict_Expand_6 .ret) .skip)) r_dict_Expand_7))) r_dict_Expand_8))) := rfl
@[go_sem] def r_dict_Expand_10_o : Ops := [
oo 36 (.mv (.t 6)), oo 4 (.asg (.t 36)), oo 5 (.asg (ci 0))]
def r_dict_Expand_10 := rg r_dict_Expand_10_o [4, 5]
@[go_sem] theorem r_dict_Expand_10_u : Gr X K s r_dict_Expand_10 r_dict_Expand_10_o [4, 5] := go_region _ _
def c_dict_Expand : ICode := (.seq r_dict_Expand_0 (.seq r_dict_Expand_1 (.seq (.seq r_dict_Expand_2 (.block 0 (.loop b_dict_Expand_9))) (.seq r_dict_Expand_10 .ret))))
def i_dict_Expand : IFunc := ⟨2, [.t 4, .t 5], c_dict_Expand⟩
def a_dict_Expand : Advice := ⟨[34], [(9, [4, 5]), (8, [0, 6, 12, 13, 14]), (7, [0, 6, 12, 13, 14]), (6, [4, 5]), (5, [0, 6, 8, 12, 13, 14, 25]), (4, [0, 6, 8, 12, 13, 14]), (3, [0, 6, 12, 13, 14, 15]), (2, [0, 6, 12, 13, 14]), (1, [0, 1, 6]), (0, [0, 1])], [], [], []⟩
/-! bytes.Compare -/
@[go_sem] def r_bytes_Compare_0_o : Ops := [
oo 4 (.asg (ci 0))]
def r_bytes_Compare_0 := rg r_bytes_Compare_0_o [0, 1]
@[go_sem] theorem r_bytes_Compare_0_u : Gr X K s r_bytes_Compare_0 r_bytes_Compare_0_o [0, 1] := go_region _ _
@[go_sem] def r_bytes_Compare_1_o : Ops := [
oo 5 (.mv (.t 0)), oo 6 (.mv (.t 1)), oo 7 (.call false n_bytealg_Compare [(.t 5), (.t 6)]), oo 4 (.asg (.t 7))]
def r_bytes_Compare_1 := rg r_bytes_Compare_1_o [4]
@[go_sem] theorem r_bytes_Compare_1_u : Gr X K s r_bytes_Compare_1 r_bytes_Compare_1_o [4] := go_region _ _
def c_bytes_Compare : ICode := (.seq r_bytes_Compare_0 (.seq r_bytes_Compare_1 .ret))
def i_bytes_Compare : IFunc := ⟨2, [.t 4], c_bytes_Compare⟩
def a_bytes_Compare : Advice := ⟨[], [(1, [4]), (0, [0, 1])], [], [], []⟩
/-! slices.BinarySearchFunc[ingot/dict.words,[]byte,[]byte] -/
@[go_sem] def r_slices_BinarySearchFunc_dict_words_Sbyte_Sbyte_0_o : Ops := [
oo 6 (.asg (ci 0)), oo 7 (.asg (.c (.bool false)))]
def r_slices_BinarySearchFunc_dict_words_Sbyte_Sbyte_0 := rg r_slices_BinarySearchFunc_dict_words_Sbyte_Sbyte_0_o [0, 1, 2]
@[go_sem] theorem r_slices_BinarySearchFunc_dict_words_Sbyte_Sbyte_0_u : Gr X K s r_slices_BinarySearchFunc_dict_words_Sbyte_Sbyte_0 r_slices_BinarySearchFunc_dict_words_Sbyte_Sbyte_0_o [0, 1, 2] := go_region _ _
@[go_sem] def r_slices_BinarySearchFunc_dict_words_Sbyte_Sbyte_1_o : Ops := [
oo 12 (.mv (.t 0)), oo 13 (.len false (.t 12)), oo 8 (.asg (.t 13))]
def r_slices_BinarySearchFunc_dict_words_Sbyte_Sbyte_1 := rg r_slices_BinarySearchFunc_dict_words_Sbyte_Sbyte_1_o [0, 1, 2, 8]
@[go_sem] theorem r_slices_BinarySearchFunc_dict_words_Sbyte_Sbyte_1_u : Gr X K s r_slices_BinarySearchFunc_dict_words_Sbyte_Sbyte_1 r_slices_BinarySearchFunc_dict_words_Sbyte_Sbyte_1_o [0, 1, 2, 8] := go_region _ _
@[go_sem] def r_slices_BinarySearchFunc_dict_words_Sbyte_Sbyte_2_o : Ops := [
oo 14 (.mv (.t 8)), oo 9 (.asg (ci 0)), oo 10 (.asg (.t 14))]
def r_slices_BinarySearchFunc_dict_words_Sbyte_Sbyte_2 := rg r_slices_BinarySearchFunc_dict_words_Sbyte_Sbyte_2_o [0, 1, 2, 8, 9, 10]
@[go_sem] theorem r_slices_BinarySearchFunc_dict_words_Sbyte_Sbyte_2_u : Gr X K s r_slices_BinarySearchFunc_dict_words_Sbyte_Sbyte_2 r_slices_BinarySearchFunc_dict_words_Sbyte_Sbyte_2_o [0, 1, 2, 8, 9, 10] := go_region _ _
@[go_sem] def r_slices_BinarySearchFunc_dict_words_Sbyte_Sbyte_3_o : Ops := [
oo 15 (.mv (.t 9)), oo 16 (.mv (.t 10)), oo 17 (.bin .lss (.t 15) (.t 16))]
def r_slices_BinarySearchFunc_dict_words_Sbyte_Sbyte_3 := rg r_slices_BinarySearchFunc_dict_words_Sbyte_Sbyte_3_o [0, 1, 2, 8, 9, 10, 17]
@[go_sem] theorem r_slices_BinarySearchFunc_dict_words_Sbyte_Sbyte_3_u : Gr X K s r_slices_BinarySearchFunc_dict_words_Sbyte_Sbyte_3 r_slices_BinarySearchFunc_dict_words_Sbyte_Sbyte_3_o [0, 1, 2, 8, 9, 10, 17] := go_region _ _
@[go_sem] def r_slices_BinarySearchFunc_dict_words_Sbyte_Sbyte_4_o : Ops := [
oo 18 (.mv (.t 9)), oo 19 (.mv (.t 10)), oo 20 (.bin .add (.t 18) (.t 19)), oo 21 (.cvInt .u64 (.t 20)), oo 22 (.bin .shr (.t 21) (.c (.int .u64 1))), oo 23 (.cvInt .i64 (.t 22)), oo 11 (.asg (.t 23))]
def r_slices_BinarySearchFunc_dict_words_Sbyte_Sbyte_4 := rg r_slices_BinarySearchFunc_dict_words_Sbyte_Sbyte_4_o [0, 1, 2, 8, 9, 10, 11]
@[go_sem] theorem r_slices_BinarySearchFunc_dict_words_Sbyte_Sbyte_4_u : Gr X K s r_slices_BinarySearchFunc_dict_words_Sbyte_Sbyte_4 r_slices_BinarySearchFunc_dict_words_Sbyte_Sbyte_4_o [0, 1, 2, 8, 9, 10, 11] := go_region _ _
@[go_sem] def r_slices_BinarySearchFunc_dict_words_Sbyte_Sbyte_5_o : Ops := [
oo 24 (.mv (.t 2)), oo 25 (.mv (.t 0)), oo 26 (.mv (.t 11)), oo 27 (.idxA 1 (.t 25) (.t 26)), oo 28 (.load none (.t 27)), oo 29 (.mv (.t 1)), oo 30 (.callv false (.t 24) [(.t 28), (.t 29)]), oo 31 (.bin .lss (.t 30) (ci 0))]
def r_slices_BinarySearchFunc_dict_words_Sbyte_Sbyte_5 := rg r_slices_BinarySearchFunc_dict_words_Sbyte_Sbyte_5_o [0, 1, 2, 8, 9, 10, 11, 31]
@[go_sem] theorem r_slices_BinarySearchFunc_dict_words_Sbyte_Sbyte_5_u : Gr X K s r_slices_BinarySearchFunc_dict_words_Sbyte_Sbyte_5 r_slices_BinarySearchFunc_dict_words_Sbyte_Sbyte_5_o [0, 1, 2, 8, 9, 10, 11, 31] := go_region _ _
@[go_sem] def r_slices_BinarySearchFunc_dict_words_Sbyte_Sbyte_6_o : Ops := [
oo 32 (.mv (.t 11)), oo 33 (.bin .add (.t 32) (ci 1)), oo 9 (.asg (.t 33))]
def r_slices_BinarySearchFunc_dict_words_Sbyte_Sbyte_6 := rg r_slices_BinarySearchFunc_dict_words_Sbyte_Sbyte_6_o [0, 1, 2, 8, 9, 10]
@[go_sem] theorem r_slices_BinarySearchFunc_dict_words_Sbyte_Sbyte_6_u : Gr X K s r_slices_BinarySearchFunc_dict_words_Sbyte_Sbyte_6 r_slices_BinarySearchFunc_dict_words_Sbyte_Sbyte_6_o [0, 1, 2, 8, 9, 10] := go_region _ _
@[go_sem] def r_slices_BinarySearchFunc_dict_words_Sbyte_Sbyte_7_o : Ops := [
oo 34 (.mv (.t 11)), oo 10 (.asg (.t 34))]
def r_slices_BinarySearchFunc_dict_words_Sbyte_Sbyte_7 := rg r_slices_BinarySearchFunc_dict_words_Sbyte_Sbyte_7_o [0, 1, 2, 8, 9, 10]
@[go_sem] theorem r_slices_BinarySearchFunc_dict_words_Sbyte_Sbyte_7_u : Gr X K s r_slices_BinarySearchFunc_dict_words_Sbyte_Sbyte_7 r_slices_BinarySearchFunc_dict_words_Sbyte_Sbyte_7_o [0, 1, 2, 8, 9, 10] := go_region _ _
def b_slices_BinarySearchFunc_dict_words_Sbyte_Sbyte_8 : ICode := (.seq (.seq r_slices_BinarySearchFunc_dict_words_Sbyte_Sbyte_3 (.cond (.t 17) .skip (.exit 0))) (.block 1 (.seq r_slices_BinarySearchFunc_dict_words_Sbyte_Sbyte_4 (.seq r_slices_BinarySearchFunc_dict_words_Sbyte_Sbyte_5 (.cond (.t 31) r_slices_BinarySearchFunc_dict_words_Sbyte_Sbyte_6 r_slices_BinarySearchFunc_dict_words_Sbyte_Sbyte_7)))))
@[go_sem] theorem b_slices_BinarySearchFunc_dict_words_Sbyte_Sbyte_8_u : Gn X K s b_slices_BinarySearchFunc_dict_words_Sbyte_Sbyte_8 (.seq (.seq r_slices_BinarySearchFunc_dict_words_Sbyte_Sbyte_3 (.cond (.t 17) .skip (.exit 0))) (.block 1 (.seq r_slices_BinarySearchFunc_dict_words_Sbyte_Sbyte_4 (.seq r_slices_BinarySearchFunc_dict_words_Sbyte_Sbyte_5 (.cond (.t 31) r_slices_BinarySearchFunc_dict_words_Sbyte_Sbyte_6 r_slices_BinarySearchFunc_dict_words_Sbyte_Sbyte_7))))) := rfl
@[go_sem] def r_slices_BinarySearchFunc_dict_words_Sbyte_Sbyte_9_o : Ops := [
oo 35 (.mv (.t 9)), oo 36 (.mv (.t 9)), oo 37 (.mv (.t 8)), oo 38 (.bin .lss (.t 36) (.t 37)), oo 39 (.mv (.t 38)), og 40 39 true (.mv (.t 2)), og 41 39 true (.mv (.t 0)), og 42 39 true (.mv (.t 9)), og 43 39 true (.idxA 1 (.t 41) (.t 42)), og 44 39 true (.load none (.t 43)), og 45 39 true (.mv (.t 1)), og 46 39 true (.callv false (.t 40) [(.t 44), (.t 45)]), og 47 39 true (.bin .eql (.t 46) (ci 0)), oo 48 (.pick (.t 39) (.t 47) (.c (.bool false))), oo 6 (.asg (.t 35)), oo 7 (.asg (.t 48))]
def r_slices_BinarySearchFunc_dict_words_Sbyte_Sbyte_9 := rg r_slices_BinarySearchFunc_dict_words_Sbyte_Sbyte_9_o [6, 7]
@[go_sem] theorem r_slices_BinarySearchFunc_dict_words_Sbyte_Sbyte_9_u : Gr X K s r_slices_BinarySearchFunc_dict_words_Sbyte_Sbyte_9 r_slices_BinarySearchFunc_dict_words_Sbyte_Sbyte_9_o [6, 7] := go_region _ _
def c_slices_BinarySearchFunc_dict_words_Sbyte_Sbyte : ICode := (.seq r_slices_BinarySearchFunc_dict_words_Sbyte_Sbyte_0 (.seq r_slices_BinarySearchFunc_dict_words_Sbyte_Sbyte_1 (.seq r_slices_BinarySearchFunc_dict_words_Sbyte_Sbyte_2 (.seq (.block 0 (.loop b_slices_BinarySearchFunc_dict_words_Sbyte_Sbyte_8)) (.seq r_slices_BinarySearchFunc_dict_words_Sbyte_Sbyte_9 .ret)))))
def i_slices_BinarySearchFunc_dict_words_Sbyte_Sbyte : IFunc := ⟨3, [.t 6, .t 7], c_slices_BinarySearchFunc_dict_words_Sbyte_Sbyte⟩
def a_slices_BinarySearchFunc_dict_words_Sbyte_Sbyte : Advice := ⟨[], [(8, [6, 7]), (6, [0, 1, 2, 8, 9, 10]), (7, [0, 1, 2, 8, 9, 10]), (5, [0, 1, 2, 8, 9, 10, 11, 31]), (4, [0, 1, 2, 8, 9, 10, 11]), (3, [0, 1, 2, 8, 9, 10, 17]), (2, [0, 1, 2, 8, 9, 10]), (1, [0, 1, 2, 8]), (0, [0, 1, 2])], [], [], []⟩
/-! slices.Clone[[]byte,byte] -/
@[go_sem] def r_slices_Clone_Sbyte_byte_0_o : Ops := [
oo 2 (.asg (.c .nilS))]
def r_slices_Clone_Sbyte_byte_0 := rg r_slices_Clone_Sbyte_byte_0_o [0]
@[go_sem] theorem r_slices_Clone_Sbyte_byte_0_u : Gr X K s r_slices_Clone_Sbyte_byte_0 r_slices_Clone_Sbyte_byte_0_o [0] := go_region _ _
@[go_sem] def r_slices_Clone_Sbyte_byte_1_o : Ops := [
oo 3 (.mv (.t 0)), oo 4 (.isNil false (.t 3))]
def r_slices_Clone_Sbyte_byte_1 := rg r_slices_Clone_Sbyte_byte_1_o [0, 4]
@[go_sem] theorem r_slices_Clone_Sbyte_byte_1_u : Gr X K s r_slices_Clone_Sbyte_byte_1 r_slices_Clone_Sbyte_byte_1_o [0, 4] := go_region _ _
@[go_sem] def r_slices_Clone_Sbyte_byte_2_o : Ops := [
oo 2 (.asg (.c .nilS))]
def r_slices_Clone_Sbyte_byte_2 := rg r_slices_Clone_Sbyte_byte_2_o [2]
@[go_sem] theorem r_slices_Clone_Sbyte_byte_2_u : Gr X K s r_slices_Clone_Sbyte_byte_2 r_slices_Clone_Sbyte_byte_2_o [2] := go_region _ _
@[go_sem] def r_slices_Clone_Sbyte_byte_3_o : Ops := [
oo 5 (.lit true 1 0 (.int .u8 0) []), oo 6 (.mv (.t 0)), oo 7 (.append 1 1 (.t 5) (.t 6)), oo 2 (.asg (.t 7))]
def r_slices_Clone_Sbyte_byte_3 := rg r_slices_Clone_Sbyte_byte_3_o [2]
@[go_sem] theorem r_slices_Clone_Sbyte_byte_3_u : Gr X K s r_slices_Clone_Sbyte_byte_3 r_slices_Clone_Sbyte_byte_3_o [2] := go_region _ _
def c_slices_Clone_Sbyte_byte : ICode := (.seq r_slices_Clone_Sbyte_byte_0 (.seq r_slices_Clone_Sbyte_byte_1 (.cond (.t 4) (.seq r_slices_Clone_Sbyte_byte_2 .ret) (.seq r_slices_Clone_Sbyte_byte_3 .ret))))
def i_slices_Clone_Sbyte_byte : IFunc := ⟨1, [.t 2], c_slices_Clone_Sbyte_byte⟩
def a_slices_Clone_Sbyte_byte : Advice := ⟨[5], [(3, [2]), (2, [2]), (1, [0, 4]), (0, [0])], [], [], []⟩
/-! ingot/dict.Make -/
@[go_sem] def r_dict_Make_0_o : Ops := [
oo 2 (.alloc [.nilS, .nilS])]
def r_dict_Make_0 := rg r_dict_Make_0_o [0, 2]
@[go_sem] theorem r_dict_Make_0_u : Gr X K s r_dict_Make_0 r_dict_Make_0_o [0, 2] := go_region _ _
@[go_sem] def r_dict_Make_1_o : Ops := [
oo 3 (.alloc [.nilS, .nilS])]
def r_dict_Make_1 := rg r_dict_Make_1_o [0, 2, 3]
@[go_sem] theorem r_dict_Make_1_u : Gr X K s r_dict_Make_1 r_dict_Make_1_o [0, 2, 3] := go_region _ _
@[go_sem] def r_dict_Make_2_o : Ops := [
oo 11 (.mv (.t 0)), oo 12 (.call false n_dict_rising [(.t 11)]), oo 4 (.asg (.t 12))]
def r_dict_Make_2 := rg r_dict_Make_2_o [0, 2, 3, 4]
@[go_sem] theorem r_dict_Make_2_u : Gr X K s r_dict_Make_2 r_dict_Make_2_o [0, 2, 3, 4] := go_region _ _
@[go_sem] def r_dict_Make_3_o : Ops := [
oo 13 (.mv (.t 4)), oo 14 (.len false (.t 13)), oo 15 (.mv (ci 0))]
def r_dict_Make_3 := rg r_dict_Make_3_o [0, 2, 3, 4, 13, 14, 15]
@[go_sem] theorem r_dict_Make_3_u : Gr X K s r_dict_Make_3 r_dict_Make_3_o [0, 2, 3, 4, 13, 14, 15] := go_region _ _
@[go_sem] def r_dict_Make_4_o : Ops := [
oo 16 (.bin .lss (.t 15) (.t 14))]
def r_dict_Make_4 := rg r_dict_Make_4_o [0, 2, 3, 4, 13, 14, 15, 16]
@[go_sem] theorem r_dict_Make_4_u : Gr X K s r_dict_Make_4 r_dict_Make_4_o [0, 2, 3, 4, 13, 14, 15, 16] := go_region _ _
@[go_sem] def r_dict_Make_5_o : Ops := [
oo 17 (.idxA 1 (.t 13) (.t 15)), oo 18 (.load none (.t 17)), oo 6 (.asg (.t 18))]
def r_dict_Make_5 := rg r_dict_Make_5_o [0, 2, 3, 4, 6, 13, 14, 15]
@[go_sem] theorem r_dict_Make_5_u : Gr X K s r_dict_Make_5 r_dict_Make_5_o [0, 2, 3, 4, 6, 13, 14, 15] := go_region _ _
@[go_sem] def r_dict_Make_6_o : Ops := [
oo 19 (.fieldA 0 (.t 3)), oo 20 (.load none (.t 19)), oo 21 (.mv (.t 6)), oo 22 (.call false n_slices_Clone_Sbyte_byte [(.t 21)]), oo 23 (.call false n_slices_Clip_Sbyte_byte [(.t 22)]), oo 24 (.lit false 1 1 (.sl []) [(0, (.t 23))]), oo 25 (.append 1 24 (.t 20) (.t 24)), oo 26 (.fieldA 0 (.t 3)), ow (.store 1 (.t 26) (.t 25))]
def r_dict_Make_6_n : List (Nat × Nat) := [(0, 2), (1, 2), (0, 3), (1, 3), (0, 4), (1, 4), (0, 5), (1, 5)]
def r_dict_Make_6 : ICode := .region r_dict_Make_6_o r_dict_Make_6_n [0, 2, 3, 4, 13, 14, 15]
@[go_sem] theorem r_dict_Make_6_u : go X (.c r_dict_Make_6 :: K) s = goRU X [] r_dict_Make_6_n r_dict_Make_6_o [0, 2, 3, 4, 13, 14, 15] K s := go_regionU' _ _ _ _
@[go_sem] def r_dict_Make_7_o : Ops := [
oo 27 (.bin .add (.t 15) (ci 1)), oo 15 (.mv (.t 27))]
def r_dict_Make_7 := rg r_dict_Make_7_o [0, 2, 3, 4, 13, 14, 15]
@[go_sem] theorem r_dict_Make_7_u : Gr X K s r_dict_Make_7 r_dict_Make_7_o [0, 2, 3, 4, 13, 14, 15] := go_region _ _
def b_dict_Make_8 : ICode := (.seq r_dict_Make_4 (.seq (.cond (.t 16) .skip (.exit 0)) (.seq (.block 1 (.seq r_dict_Make_5 r_dict_Make_6)) r_dict_Make_7)))
@[go_sem] theorem b_dict_Make_8_u : Gn X K s b_dict_Make_8 (.seq r_dict_Make_4 (.seq (.cond (.t 16) .skip (.exit 0)) (.seq (.block 1 (.seq r_dict_Make_5 r_dict_Make_6)) r_dict_Make_7))) := rfl
@[go_sem] def r_dict_Make_9_o : Ops := [
oo 28 (.mv (.t 0)), oo 29 (.len false (.t 28)), oo 30 (.mv (ci 0))]
def r_dict_Make_9 := rg r_dict_Make_9_o [2, 3, 4, 28, 29, 30]
@[go_sem] theorem r_dict_Make_9_u : Gr X K s r_dict_Make_9 r_dict_Make_9_o [2, 3, 4, 28, 29, 30] := go_region _ _
@[go_sem] def r_dict_Make_10_o : Ops := [
oo 31 (.bin .lss (.t 30) (.t 29))]
def r_dict_Make_10 := rg r_dict_Make_10_o [2, 3, 4, 28, 29, 30, 31]
@[go_sem] theorem r_dict_Make_10_u : Gr X K s r_dict_Make_10 r_dict_Make_10_o [2, 3, 4, 28, 29, 30, 31] := go_region _ _
@[go_sem] def r_dict_Make_11_o : Ops := [
oo 32 (.idxA 1 (.t 28) (.t 30)), oo 33 (.load none (.t 32)), oo 8 (.asg (.t 33))]
def r_dict_Make_11 := rg r_dict_Make_11_o [2, 3, 4, 8, 28, 29, 30]
@[go_sem] theorem r_dict_Make_11_u : Gr X K s r_dict_Make_11 r_dict_Make_11_o [2, 3, 4, 8, 28, 29, 30] := go_region _ _
@[go_sem] def r_dict_Make_12_o : Ops := [
oo 35 (.mv (.t 4)), oo 36 (.mv (.t 8)), oo 37 (.call false n_slices_BinarySearchFunc_dict_words_Sbyte_Sbyte [(.t 35), (.t 36), (.c (.fn n_bytes_Compare))]), oo 34 (.mv (.t 37)), oo 38 (.ext (.t 34) 0), oo 39 (.ext (.t 34) 1), oo 9 (.asg (.t 38)), oo 10 (.asg (.t 39))]
def r_dict_Make_12 := rg r_dict_Make_12_o [2, 3, 4, 9, 28, 29, 30]
@[go_sem] theorem r_dict_Make_12_u : Gr X K s r_dict_Make_12 r_dict_Make_12_o [2, 3, 4, 9, 28, 29, 30] := go_region _ _
@[go_sem] def r_dict_Make_13_o : Ops := [
oo 40 (.fieldA 1 (.t 3)), oo 41 (.load none (.t 40)), oo 42 (.mv (.t 9)), oo 43 (.lit false 1 1 (.int .i64 0) [(0, (.t 42))]), oo 44 (.append 1 8 (.t 41) (.t 43)), oo 45 (.fieldA 1 (.t 3)), ow (.store 1 (.t 45) (.t 44))]
def r_dict_Make_13 := rg r_dict_Make_13_o [2, 3, 4, 28, 29, 30]
@[go_sem] theorem r_dict_Make_13_u : Gr X K s r_dict_Make_13 r_dict_Make_13_o [2, 3, 4, 28, 29, 30] := go_region _ _
@[go_sem] def r_dict_Make_14_o : Ops := [
oo 46 (.bin .add (.t 30) (ci 1)), oo 30 (.mv (.t 46))]
def r_dict_Make_14 := rg r_dict_Make_14_o [2, 3, 4, 28, 29, 30]
@[go_sem] theorem r_dict_Make_14_u : Gr X K s r_dict_Make_14 r_dict_Make_14_o [2, 3, 4, 28, 29, 30] := go_region _ _
def b_dict_Make_15 : ICode := (.seq r_dict_Make_10 (.seq (.cond (.t 31) .skip (.exit 2)) (.seq (.block 3 (.seq r_dict_Make_11 (.seq r_dict_Make_12 r_dict_Make_13))) r_dict_Make_14)))
@[go_sem] theorem b_dict_Make_15_u : Gn X K s b_dict_Make_15 (.seq r_dict_Make_10 (.seq (.cond (.t 31) .skip (.exit 2)) (.seq (.block 3 (.seq r_dict_Make_11 (.seq r_dict_Make_12 r_dict_Make_13))) r_dict_Make_14))) := rfl
@[go_sem] def r_dict_Make_16_o : Ops := [
oo 47 (.fieldA 0 (.t 3)), oo 48 (.load none (.t 47)), oo 49 (.call true n_slices_Clip_SSbyte_Sbyte [(.t 48)]), oo 50 (.fieldA 1 (.t 3)), oo 51 (.load none (.t 50)), oo 52 (.call true n_slices_Clip_Sint64_int64 [(.t 51)]), oo 53 (.fieldA 0 (.t 3)), ow (.store 1 (.t 53) (.t 49)), oo 54 (.fieldA 1 (.t 3)), ow (.store 1 (.t 54) (.t 52))]
def r_dict_Make_16_n : List (Nat × Nat) := [(0, 3), (1, 3), (2, 3), (0, 4), (1, 4), (2, 4), (5, 6)]
def r_dict_Make_16 : ICode := .region r_dict_Make_16_o r_dict_Make_16_n [2, 3]
@[go_sem] theorem r_dict_Make_16_u : go X (.c r_dict_Make_16 :: K) s = goRU X [] r_dict_Make_16_n r_dict_Make_16_o [2, 3] K s := go_regionU' _ _ _ _
@[go_sem] def r_dict_Make_17_o : Ops := [
oo 55 (.load (some 2) (.t 3)), ow (.store 2 (.t 2) (.t 55))]
def r_dict_Make_17 := rg r_dict_Make_17_o [2]
@[go_sem] theorem r_dict_Make_17_u : Gr X K s r_dict_Make_17 r_dict_Make_17_o [2] := go_region _ _
def c_dict_Make : ICode := (.seq r_dict_Make_0 (.seq r_dict_Make_1 (.seq r_dict_Make_2 (.seq (.seq r_dict_Make_3 (.block 0 (.loop b_dict_Make_8))) (.seq (.seq r_dict_Make_9 (.block 2 (.loop b_dict_Make_15))) (.seq r_dict_Make_16 (.seq r_dict_Make_17 .ret)))))))
def i_dict_Make : IFunc := ⟨1, [.cell 2 (some 2)], c_dict_Make⟩
def a_dict_Make : Advice := ⟨[25, 44, 49, 52], [(15, [2]), (14, [2, 3]), (13, [2, 3, 4, 28, 29, 30]), (12, [2, 3, 4, 28, 29, 30]), (11, [2, 3, 4, 9, 28, 29, 30]), (10, [2, 3, 4, 8, 28, 29, 30]), (9, [2, 3, 4, 28, 29, 30, 31]), (8, [2, 3, 4, 28, 29, 30]), (7, [0, 2, 3, 4, 13, 14, 15]), (6, [0, 2, 3, 4, 13, 14, 15]), (5, [0, 2, 3, 4, 6, 13, 14, 15]), (4, [0, 2, 3, 4, 13, 14, 15, 16]), (3, [0, 2, 3, 4, 13, 14, 15]), (2, [0, 2, 3, 4]), (1, [0, 2, 3]), (0, [0, 2])], [], [], []⟩
/-! ingot/ingotlaw17.known -/
@[go_sem] def r_ingotlaw17_known_0_o : Ops := [
oo 0 (.asg (.c (.bool false)))]
def r_ingotlaw17_known_0 := rg r_ingotlaw17_known_0_o []
@[go_sem] theorem r_ingotlaw17_known_0_u : Gr X K s r_ingotlaw17_known_0 r_ingotlaw17_known_0_o [] := go_region _ _
@[go_sem] def r_ingotlaw17_known_1_o : Ops := [
oo 8 (.lit true 1 1 (.int .u8 0) [(0, (.c (.int .u8 98)))]), oo 9 (.cvB false (.t 8)), oo 10 (.lit true 1 1 (.int .u8 0) [(0, (.c (.int .u8 97)))]), oo 11 (.cvB false (.t 10)), oo 12 (.lit true 1 1 (.int .u8 0) [(0, (.c (.int .u8 98)))]), oo 13 (.cvB false (.t 12)), oo 14 (.lit false 1 3 (.sl []) [(0, (.t 9)), (1, (.t 11)), (2, (.t 13))]), oo 15 (.call false n_dict_Make [(.t 14)]), oo 1 (.alloc [.nilS, .nilS]), ow (.store 2 (.t 1) (.t 15))]
def r_ingotlaw17_known_1 := rg r_ingotlaw17_known_1_o [1]
@[go_sem] theorem r_ingotlaw17_known_1_u : Gr X K s r_ingotlaw17_known_1 r_ingotlaw17_known_1_o [1] := go_region _ _
@[go_sem] def r_ingotlaw17_known_2_o : Ops := [
oo 17 (.fieldA 0 (.t 1)), oo 18 (.load none (.t 17)), oo 19 (.fieldA 1 (.t 1)), oo 20 (.load none (.t 19)), oo 21 (.call false n_dict_Expand [(.t 18), (.t 20)]), oo 16 (.mv (.t 21)), oo 22 (.ext (.t 16) 0), oo 23 (.ext (.t 16) 1), oo 2 (.asg (.t 22)), oo 3 (.asg (.t 23))]
def r_ingotlaw17_known_2 := rg r_ingotlaw17_known_2_o [1, 2, 3]
@[go_sem] theorem r_ingotlaw17_known_2_u : Gr X K s r_ingotlaw17_known_2 r_ingotlaw17_known_2_o [1, 2, 3] := go_region _ _
@[go_sem] def r_ingotlaw17_known_3_o : Ops := [
oo 25 (.mv (.t 2)), oo 26 (.call false n_dict_Join [(.t 25)]), oo 24 (.mv (.t 26)), oo 27 (.ext (.t 24) 0), oo 28 (.ext (.t 24) 1), oo 4 (.asg (.t 27)), oo 5 (.asg (.t 28))]
def r_ingotlaw17_known_3 := rg r_ingotlaw17_known_3_o [1, 2, 3, 4, 5]
@[go_sem] theorem r_ingotlaw17_known_3_u : Gr X K s r_ingotlaw17_known_3 r_ingotlaw17_known_3_o [1, 2, 3, 4, 5] := go_region _ _
@[go_sem] def r_ingotlaw17_known_4_o : Ops := [
oo 30 (.mv (.t 4)), oo 31 (.mv (.t 5)), oo 32 (.call false n_dict_Cut [(.t 30), (.t 31)]), oo 29 (.mv (.t 32)), oo 33 (.ext (.t 29) 0), oo 34 (.ext (.t 29) 1), oo 6 (.asg (.t 33)), oo 7 (.asg (.t 34))]
def r_ingotlaw17_known_4 := rg r_ingotlaw17_known_4_o [1, 2, 3, 4, 6, 7]
@[go_sem] theorem r_ingotlaw17_known_4_u : Gr X K s r_ingotlaw17_known_4 r_ingotlaw17_known_4_o [1, 2, 3, 4, 6, 7] := go_region _ _
@[go_sem] def r_ingotlaw17_known_5_o : Ops := [
oo 35 (.fieldA 0 (.t 1)), oo 36 (.load none (.t 35)), oo 37 (.len false (.t 36)), oo 38 (.bin .eql (.t 37) (ci 2)), oo 39 (.mv (.t 38)), og 40 39 true (.fieldA 0 (.t 1)), og 41 39 true (.load none (.t 40)), og 42 39 true (.idxA 1 (.t 41) (ci 0)), og 43 39 true (.load none (.t 42)), og 44 39 true (.b2s (.t 43)), og 45 39 true (.bin .eql (.t 44) (.c (.str [97]))), oo 46 (.pick (.t 39) (.t 45) (.c (.bool false))), oo 47 (.mv (.t 46)), og 48 47 true (.fieldA 1 (.t 1)), og 49 47 true (.load none (.t 48)), og 50 47 true (.len false (.t 49)), og 51 47 true (.bin .eql (.t 50) (ci 3)), oo 52 (.pick (.t 47) (.t 51) (.c (.bool false))), oo 53 (.mv (.t 52)), og 54 53 true (.fieldA 1 (.t 1)), og 55 53 true (.load none (.t 54)), og 56 53 true (.idxA 1 (.t 55) (ci 0)), og 57 53 true (.load none (.t 56)), og 58 53 true (.bin .eql (.t 57) (ci 1)), oo 59 (.pick (.t 53) (.t 58) (.c (.bool false))), oo 60 (.mv (.t 59)), og 61 60 true (.mv (.t 3)), og 62 60 true (.mv (.t 7)), og 63 60 true (.bin .add (.t 61) (.t 62)), og 64 60 true (.bin .eql (.t 63) (ci 0)), oo 65 (.pick (.t 60) (.t 64) (.c (.bool false))), oo 66 (.mv (.t 65)), og 67 66 true (.mv (.t 4)), og 68 66 true (.b2s (.t 67)), og 69 66 true (.bin .eql (.t 68) (.c (.str [98, 97, 98]))), oo 70 (.pick (.t 66) (.t 69) (.c (.bool false))), oo 71 (.mv (.t 70)), og 72 71 true (.mv (.t 6)), og 73 71 true (.len false (.t 72)), og 74 71 true (.bin .eql (.t 73) (ci 3)), oo 75 (.pick (.t 71) (.t 74) (.c (.bool false))), oo 76 (.mv (.t 75)), og 77 76 true (.mv (.t 6)), og 78 76 true (.idxA 1 (.t 77) (ci 2)), og 79 76 true (.load none (.t 78)), og 80 76 true (.b2s (.t 79)), og 81 76 true (.bin .eql (.t 80) (.c (.str [98]))), oo 82 (.pick (.t 76) (.t 81) (.c (.bool false))), oo 83 (.mv (.t 82)), og 84 83 true (.mv (.t 2)), og 85 83 true (.call false n_dict_Worth [(.t 84), (ci 70)]), oo 86 (.pick (.t 83) (.t 85) (.c (.bool false))), oo 87 (.mv (.t 86)), og 88 87 true (.mv (.t 2)), og 89 87 true (.call false n_dict_Worth [(.t 88), (ci 50)]), og 90 87 true (.un .not (.t 89)), oo 91 (.pick (.t 87) (.t 90) (.c (.bool false))), oo 0 (.asg (.t 91))]
def r_ingotlaw17_known_5 := rg r_ingotlaw17_known_5_o [0]
@[go_sem] theorem r_ingotlaw17_known_5_u : Gr X K s r_ingotlaw17_known_5 r_ingotlaw17_known_5_o [0] := go_region _ _
def c_ingotlaw17_known : ICode := (.seq r_ingotlaw17_known_0 (.seq r_ingotlaw17_known_1 (.seq r_ingotlaw17_known_2 (.seq r_ingotlaw17_known_3 (.seq r_ingotlaw17_known_4 (.seq r_ingotlaw17_known_5 .ret))))))
def i_ingotlaw17_known : IFunc := ⟨0, [.t 0], c_ingotlaw17_known⟩
def a_ingotlaw17_known : Advice := ⟨[8, 10, 12], [(5, [0]), (4, [1, 2, 3, 4, 6, 7]), (3, [1, 2, 3, 4, 5]), (2, [1, 2, 3]), (1, [1]), (0, [])], [], [], []⟩
/-! ingot/ingotlaw17.DictMakes -/
@[go_sem] def r_ingotlaw17_DictMakes_0_o : Ops := [
oo 4 (.asg (.c (.bool false)))]
def r_ingotlaw17_DictMakes_0 := rg r_ingotlaw17_DictMakes_0_o [0, 1]
@[go_sem] theorem r_ingotlaw17_DictMakes_0_u : Gr X K s r_ingotlaw17_DictMakes_0 r_ingotlaw17_DictMakes_0_o [0, 1] := go_region _ _
@[go_sem] def r_ingotlaw17_DictMakes_1_o : Ops := [
oo 11 (.call false n_ingotlaw17_known []), oo 12 (.un .not (.t 11))]
def r_ingotlaw17_DictMakes_1 := rg r_ingotlaw17_DictMakes_1_o [0, 1, 12]
@[go_sem] theorem r_ingotlaw17_DictMakes_1_u : Gr X K s r_ingotlaw17_DictMakes_1 r_ingotlaw17_DictMakes_1_o [0, 1, 12] := go_region _ _
@[go_sem] def r_ingotlaw17_DictMakes_2_o : Ops := [
oo 4 (.asg (.c (.bool false)))]
def r_ingotlaw17_DictMakes_2 := rg r_ingotlaw17_DictMakes_2_o [4]
@[go_sem] theorem r_ingotlaw17_DictMakes_2_u : Gr X K s r_ingotlaw17_DictMakes_2 r_ingotlaw17_DictMakes_2_o [4] := go_region _ _
@[go_sem] def r_ingotlaw17_DictMakes_3_o : Ops := [
oo 13 (.mv (.t 0)), oo 14 (.call false n_ingotlaw17_few [(.t 13)]), oo 15 (.un .not (.t 14))]
def r_ingotlaw17_DictMakes_3 := rg r_ingotlaw17_DictMakes_3_o [0, 1, 15]
@[go_sem] theorem r_ingotlaw17_DictMakes_3_u : Gr X K s r_ingotlaw17_DictMakes_3 r_ingotlaw17_DictMakes_3_o [0, 1, 15] := go_region _ _
@[go_sem] def r_ingotlaw17_DictMakes_4_o : Ops := [
oo 4 (.asg (.c (.bool true)))]
def r_ingotlaw17_DictMakes_4 := rg r_ingotlaw17_DictMakes_4_o [4]
@[go_sem] theorem r_ingotlaw17_DictMakes_4_u : Gr X K s r_ingotlaw17_DictMakes_4 r_ingotlaw17_DictMakes_4_o [4] := go_region _ _
@[go_sem] def r_ingotlaw17_DictMakes_5_o : Ops := [
oo 16 (.mv (.t 0)), oo 17 (.call false n_dict_Make [(.t 16)]), oo 5 (.alloc [.nilS, .nilS]), ow (.store 2 (.t 5) (.t 17))]
def r_ingotlaw17_DictMakes_5 := rg r_ingotlaw17_DictMakes_5_o [0, 1, 5]
@[go_sem] theorem r_ingotlaw17_DictMakes_5_u : Gr X K s r_ingotlaw17_DictMakes_5 r_ingotlaw17_DictMakes_5_o [0, 1, 5] := go_region _ _
@[go_sem] def r_ingotlaw17_DictMakes_6_o : Ops := [
oo 19 (.mv (.t 0)), oo 20 (.call false n_ingotref17_Make [(.t 19)]), oo 18 (.mv (.t 20)), oo 21 (.ext (.t 18) 0), oo 22 (.ext (.t 18) 1), oo 6 (.asg (.t 21)), oo 7 (.asg (.t 22))]
def r_ingotlaw17_DictMakes_6 := rg r_ingotlaw17_DictMakes_6_o [0, 1, 5, 6, 7]
@[go_sem] theorem r_ingotlaw17_DictMakes_6_u : Gr X K s r_ingotlaw17_DictMakes_6 r_ingotlaw17_DictMakes_6_o [0, 1, 5, 6, 7] := go_region _ _
@[go_sem] def r_ingotlaw17_DictMakes_7_o : Ops := [
oo 24 (.fieldA 0 (.t 5)), oo 25 (.load none (.t 24)), oo 26 (.fieldA 1 (.t 5)), oo 27 (.load none (.t 26)), oo 28 (.call false n_dict_Expand [(.t 25), (.t 27)]), oo 23 (.mv (.t 28)), oo 29 (.ext (.t 23) 0), oo 30 (.ext (.t 23) 1), oo 8 (.asg (.t 29)), oo 9 (.asg (.t 30))]
def r_ingotlaw17_DictMakes_7 := rg r_ingotlaw17_DictMakes_7_o [0, 1, 5, 6, 7, 8, 9]
@[go_sem] theorem r_ingotlaw17_DictMakes_7_u : Gr X K s r_ingotlaw17_DictMakes_7 r_ingotlaw17_DictMakes_7_o [0, 1, 5, 6, 7, 8, 9] := go_region _ _
@[go_sem] def r_ingotlaw17_DictMakes_8_o : Ops := [
oo 31 (.fieldA 0 (.t 5)), oo 32 (.load none (.t 31)), oo 33 (.mv (.t 6)), oo 34 (.call false n_ingotlaw17_Same [(.t 32), (.t 33)]), oo 35 (.un .not (.t 34)), oo 36 (.mv (.t 35)), og 37 36 false (.fieldA 1 (.t 5)), og 38 36 false (.load none (.t 37)), og 39 36 false (.mv (.t 7)), og 40 36 false (.call false n_ingotlaw8_Same [(.t 38), (.t 39)]), og 41 36 false (.un .not (.t 40)), oo 42 (.pick (.t 36) (.c (.bool true)) (.t 41)), oo 43 (.mv (.t 42)), og 44 43 false (.mv (.t 9)), og 45 43 false (.bin .neq (.t 44) (ci 0)), oo 46 (.pick (.t 43) (.c (.bool true)) (.t 45)), oo 47 (.mv (.t 46)), og 48 47 false (.mv (.t 8)), og 49 47 false (.mv (.t 0)), og 50 47 false (.call false n_ingotlaw17_Same [(.t 48), (.t 49)]), og 51 47 false (.un .not (.t 50)), oo 52 (.pick (.t 47) (.c (.bool true)) (.t 51)), oo 53 (.mv (.t 52)), og 54 53 false (.mv (.t 0)), og 55 53 false (.mv (.t 1)), og 56 53 false (.call false n_dict_Worth [(.t 54), (.t 55)]), og 57 53 false (.mv (.t 0)), og 58 53 false (.mv (.t 1)), og 59 53 false (.call false n_ingotref17_Worth [(.t 57), (.t 58)]), og 60 53 false (.eqn true .bool (.t 56) (.t 59)), oo 61 (.pick (.t 53) (.c (.bool true)) (.t 60))]
def r_ingotlaw17_DictMakes_8 := rg r_ingotlaw17_DictMakes_8_o [5, 61]
@[go_sem] theorem r_ingotlaw17_DictMakes_8_u : Gr X K s r_ingotlaw17_DictMakes_8 r_ingotlaw17_DictMakes_8_o [5, 61] := go_region _ _
@[go_sem] def r_ingotlaw17_DictMakes_9_o : Ops := [
oo 4 (.asg (.c (.bool false)))]
def r_ingotlaw17_DictMakes_9 := rg r_ingotlaw17_DictMakes_9_o [4]
@[go_sem] theorem r_ingotlaw17_DictMakes_9_u : Gr X K s r_ingotlaw17_DictMakes_9 r_ingotlaw17_DictMakes_9_o [4] := go_region _ _
@[go_sem] def r_ingotlaw17_DictMakes_10_o : Ops := [
oo 10 (.asg (ci 1))]
def r_ingotlaw17_DictMakes_10 := rg r_ingotlaw17_DictMakes_10_o [5, 10]
@[go_sem] theorem r_ingotlaw17_DictMakes_10_u : Gr X K s r_ingotlaw17_DictMakes_10 r_ingotlaw17_DictMakes_10_o [5, 10] := go_region _ _
@[go_sem] def r_ingotlaw17_DictMakes_11_o : Ops := [
oo 62 (.mv (.t 10)), oo 63 (.fieldA 0 (.t 5)), oo 64 (.load none (.t 63)), oo 65 (.len false (.t 64)), oo 66 (.bin .lss (.t 62) (.t 65))]
def r_ingotlaw17_DictMakes_11 := rg r_ingotlaw17_DictMakes_11_o [5, 10, 66]
@[go_sem] theorem r_ingotlaw17_DictMakes_11_u : Gr X K s r_ingotlaw17_DictMakes_11 r_ingotlaw17_DictMakes_11_o [5, 10, 66] := go_region _ _
@[go_sem] def r_ingotlaw17_DictMakes_12_o : Ops := [
oo 69 (.fieldA 0 (.t 5)), oo 70 (.load none (.t 69)), oo 71 (.mv (.t 10)), oo 72 (.bin .sub (.t 71) (ci 1)), oo 73 (.idxA 1 (.t 70) (.t 72)), oo 74 (.load none (.t 73)), oo 75 (.b2s (.t 74)), oo 76 (.fieldA 0 (.t 5)), oo 77 (.load none (.t 76)), oo 78 (.mv (.t 10)), oo 79 (.idxA 1 (.t 77) (.t 78)), oo 80 (.load none (.t 79)), oo 81 (.b2s (.t 80)), oo 82 (.bin .geq (.t 75) (.t 81))]
def r_ingotlaw17_DictMakes_12_n : List (Nat × Nat) := [(0, 2), (1, 2), (0, 3), (1, 3), (0, 7), (1, 7), (2, 7), (3, 7), (4, 7), (5, 7), (6, 7), (0, 8), (1, 8), (2, 8), (3, 8), (4, 8), (5, 8), (6, 8), (0, 9), (1, 9), (2, 9), (3, 9), (4, 9), (5, 9), (6, 9), (7, 9), (8, 9), (0, 10), (1, 10), (2, 10), (3, 10), (4, 10), (5, 10), (6, 10), (0, 11), (1, 11), (2, 11), (3, 11), (4, 11), (5, 11), (6, 11), (0, 12), (1, 12), (2, 12), (3, 12), (4, 12), (5, 12), (6, 12)]
def r_ingotlaw17_DictMakes_12 : ICode := .region r_ingotlaw17_DictMakes_12_o r_ingotlaw17_DictMakes_12_n [5, 10, 82]
@[go_sem] theorem r_ingotlaw17_DictMakes_12_u : go X (.c r_ingotlaw17_DictMakes_12 :: K) s = goRU X [] r_ingotlaw17_DictMakes_12_n r_ingotlaw17_DictMakes_12_o [5, 10, 82] K s := go_regionU' _ _ _ _
@[go_sem] def r_ingotlaw17_DictMakes_13_o : Ops := [
oo 4 (.asg (.c (.bool false)))]
def r_ingotlaw17_DictMakes_13 := rg r_ingotlaw17_DictMakes_13_o [4]
@[go_sem] theorem r_ingotlaw17_DictMakes_13_u : Gr X K s r_ingotlaw17_DictMakes_13 r_ingotlaw17_DictMakes_13_o [4] := go_region _ _
@[go_sem] def r_ingotlaw17_DictMakes_14_o : Ops := [
oo 67 (.mv (.t 10)), oo 68 (.bin .add (.t 67) (ci 1)), oo 10 (.asg (.t 68))]
def r_ingotlaw17_DictMakes_14 := rg r_ingotlaw17_DictMakes_14_o [5, 10]
@[go_sem] theorem r_ingotlaw17_DictMakes_14_u : Gr X K s r_ingotlaw17_DictMakes_14 r_ingotlaw17_DictMakes_14_o [5, 10] := go_region _ _
def b_ingotlaw17_DictMakes_15 : ICode := (.seq (.seq r_ingotlaw17_DictMakes_11 (.cond (.t 66) .skip (.exit 0))) (.seq (.block 1 (.seq r_ingotlaw17_DictMakes_12 (.cond (.t 82) (.seq r_ingotlaw17_DictMakes_13 .ret) .skip))) r_ingotlaw17_DictMakes_14))
@[go_sem] theorem b_ingotlaw17_DictMakes_15_u : Gn X K s b_ingotlaw17_DictMakes_15 (.seq (.seq r_ingotlaw17_DictMakes_11 (.cond (.t 66) .skip (.exit 0))) (.seq (.block 1 (.seq r_ingotlaw17_DictMakes_12 (.cond (.t 82) (.seq r_ingotlaw17_DictMakes_13 .ret) .skip))) r_ingotlaw17_DictMakes_14)) := rfl
@[go_sem] def r_ingotlaw17_DictMakes_16_o : Ops := [
oo 4 (.asg (.c (.bool true)))]
def r_ingotlaw17_DictMakes_16 := rg r_ingotlaw17_DictMakes_16_o [4]
@[go_sem] theorem r_ingotlaw17_DictMakes_16_u : Gr X K s r_ingotlaw17_DictMakes_16 r_ingotlaw17_DictMakes_16_o [4] := go_region _ _
def c_ingotlaw17_DictMakes : ICode := (.seq r_ingotlaw17_DictMakes_0 (.seq r_ingotlaw17_DictMakes_1 (.cond (.t 12) (.seq r_ingotlaw17_DictMakes_2 .ret) (.seq r_ingotlaw17_DictMakes_3 (.cond (.t 15) (.seq r_ingotlaw17_DictMakes_4 .ret) (.seq r_ingotlaw17_DictMakes_5 (.seq r_ingotlaw17_DictMakes_6 (.seq r_ingotlaw17_DictMakes_7 (.seq r_ingotlaw17_DictMakes_8 (.cond (.t 61) (.seq r_ingotlaw17_DictMakes_9 .ret) (.seq (.seq r_ingotlaw17_DictMakes_10 (.block 0 (.loop b_ingotlaw17_DictMakes_15))) (.seq r_ingotlaw17_DictMakes_16 .ret))))))))))))
def i_ingotlaw17_DictMakes : IFunc := ⟨2, [.t 4], c_ingotlaw17_DictMakes⟩
def a_ingotlaw17_DictMakes : Advice := ⟨[], [(15, [4]), (12, [5, 10]), (14, [4]), (13, [5, 10, 82]), (11, [5, 10, 66]), (10, [5, 10]), (9, [4]), (8, [5, 61]), (7, [0, 1, 5, 6, 7, 8, 9]), (6, [0, 1, 5, 6, 7]), (5, [0, 1, 5]), (4, [4]), (3, [0, 1, 15]), (2, [4]), (1, [0, 1, 12]), (0, [0, 1])], [], [], []⟩
/-! the table -/
def tbl : List (FuncId × IFunc) := [(n_ingotlaw17_DictWorth, i_ingotlaw17_DictWorth), (n_ingotlaw17_DictOrders, i_ingotlaw17_DictOrders), (n_ingotlaw17_DictJoins, i_ingotlaw17_DictJoins), (n_ingotref17_Expand, i_ingotref17_Expand), (n_ingotref17_Cut, i_ingotref17_Cut), (n_ingotlaw17_DictBytes, i_ingotlaw17_DictBytes), (n_ingotref17_Worth, i_ingotref17_Worth), (n_ingotlaw8_Same, i_ingotlaw8_Same), (n_ingotlaw17_Same, i_ingotlaw17_Same), (n_ingotref17_Make, i_ingotref17_Make), (n_ingotlaw17_few, i_ingotlaw17_few), (n_dict_Worth, i_dict_Worth), (n_dict_Cut, i_dict_Cut), (n_bytes_Join, i_bytes_Join), (n_dict_Join, i_dict_Join), (n_dict_Expand, i_dict_Expand), (n_bytes_Compare, i_bytes_Compare), (n_slices_BinarySearchFunc_dict_words_Sbyte_Sbyte, i_slices_BinarySearchFunc_dict_words_Sbyte_Sbyte), (n_slices_Clone_Sbyte_byte, i_slices_Clone_Sbyte_byte), (n_dict_Make, i_dict_Make), (n_ingotlaw17_known, i_ingotlaw17_known), (n_ingotlaw17_DictMakes, i_ingotlaw17_DictMakes)]
def clips : List FuncId := [n_slices_Clip_Sint64_int64, n_slices_Clip_SSbyte_Sbyte, n_slices_Clip_Sbyte_byte]
set_option maxRecDepth 100000 in
theorem k_ingotlaw17_DictWorth : cFunc Try.prog a_ingotlaw17_DictWorth Try.f7 = some i_ingotlaw17_DictWorth := by kernel_rfl
set_option maxRecDepth 100000 in
theorem k_ingotlaw17_DictOrders : cFunc Try.prog a_ingotlaw17_DictOrders Try.f6 = some i_ingotlaw17_DictOrders := by kernel_rfl
set_option maxRecDepth 100000 in
theorem k_ingotlaw17_DictJoins : cFunc Try.prog a_ingotlaw17_DictJoins Try.f5 = some i_ingotlaw17_DictJoins := by kernel_rfl
set_option maxRecDepth 100000 in
theorem k_ingotref17_Expand : cFunc Try.prog a_ingotref17_Expand Try.f19 = some i_ingotref17_Expand := by kernel_rfl
set_option maxRecDepth 100000 in
theorem k_ingotref17_Cut : cFunc Try.prog a_ingotref17_Cut Try.f18 = some i_ingotref17_Cut := by kernel_rfl
set_option maxRecDepth 100000 in
theorem k_ingotlaw17_DictBytes : cFunc Try.prog a_ingotlaw17_DictBytes Try.f4 = some i_ingotlaw17_DictBytes := by kernel_rfl
set_option maxRecDepth 100000 in
theorem k_ingotref17_Worth : cFunc Try.prog a_ingotref17_Worth Try.f16 = some i_ingotref17_Worth := by kernel_rfl
set_option maxRecDepth 100000 in
theorem k_ingotlaw8_Same : cFunc Try.prog a_ingotlaw8_Same Try.f14 = some i_ingotlaw8_Same := by kernel_rfl
set_option maxRecDepth 100000 in
theorem k_ingotlaw17_Same : cFunc Try.prog a_ingotlaw17_Same Try.f13 = some i_ingotlaw17_Same := by kernel_rfl
set_option maxRecDepth 100000 in
theorem k_ingotref17_Make : cFunc Try.prog a_ingotref17_Make Try.f11 = some i_ingotref17_Make := by kernel_rfl
set_option maxRecDepth 100000 in
theorem k_ingotlaw17_few : cFunc Try.prog a_ingotlaw17_few Try.f9 = some i_ingotlaw17_few := by kernel_rfl
set_option maxRecDepth 100000 in
theorem k_dict_Worth : cFunc Try.prog a_dict_Worth Try.f15 = some i_dict_Worth := by kernel_rfl
set_option maxRecDepth 100000 in
theorem k_dict_Cut : cFunc Try.prog a_dict_Cut Try.f17 = some i_dict_Cut := by kernel_rfl
set_option maxRecDepth 100000 in
theorem k_bytes_Join : cFunc Try.prog a_bytes_Join Try.f28 = some i_bytes_Join := by kernel_rfl
set_option maxRecDepth 100000 in
theorem k_dict_Join : cFunc Try.prog a_dict_Join Try.f20 = some i_dict_Join := by kernel_rfl
set_option maxRecDepth 100000 in
theorem k_dict_Expand : cFunc Try.prog a_dict_Expand Try.f12 = some i_dict_Expand := by kernel_rfl
set_option maxRecDepth 100000 in
theorem k_bytes_Compare : cFunc Try.prog a_bytes_Compare Try.f25 = some i_bytes_Compare := by kernel_rfl
set_option maxRecDepth 100000 in
theorem k_slices_BinarySearchFunc_dict_words_Sbyte_Sbyte : cFunc Try.prog a_slices_BinarySearchFunc_dict_words_Sbyte_Sbyte Try.f24 = some i_slices_BinarySearchFunc_dict_words_Sbyte_Sbyte := by kernel_rfl
set_option maxRecDepth 100000 in
theorem k_slices_Clone_Sbyte_byte : cFunc Try.prog a_slices_Clone_Sbyte_byte Try.f23 = some i_slices_Clone_Sbyte_byte := by kernel_rfl
set_option maxRecDepth 100000 in
theorem k_dict_Make : cFunc Try.prog a_dict_Make Try.f10 = some i_dict_Make := by kernel_rfl
set_option maxRecDepth 100000 in
theorem k_ingotlaw17_known : cFunc Try.prog a_ingotlaw17_known Try.f8 = some i_ingotlaw17_known := by kernel_rfl
set_option maxRecDepth 100000 in
theorem k_ingotlaw17_DictMakes : cFunc Try.prog a_ingotlaw17_DictMakes Try.f3 = some i_ingotlaw17_DictMakes := by kernel_rfl
theorem tbl_ok : Entries Try.prog tbl :=
  .cons (.of Try.func7 (by kernel_rfl) k_ingotlaw17_DictWorth) <|
  .cons (.of Try.func6 (by kernel_rfl) k_ingotlaw17_DictOrders) <|
  .cons (.of Try.func5 (by kernel_rfl) k_ingotlaw17_DictJoins) <|
  .cons (.of Try.func19 (by kernel_rfl) k_ingotref17_Expand) <|
  .cons (.of Try.func18 (by kernel_rfl) k_ingotref17_Cut) <|
  .cons (.of Try.func4 (by kernel_rfl) k_ingotlaw17_DictBytes) <|
  .cons (.of Try.func16 (by kernel_rfl) k_ingotref17_Worth) <|
  .cons (.of Try.func14 (by kernel_rfl) k_ingotlaw8_Same) <|
  .cons (.of Try.func13 (by kernel_rfl) k_ingotlaw17_Same) <|
  .cons (.of Try.func11 (by kernel_rfl) k_ingotref17_Make) <|
  .cons (.of Try.func9 (by kernel_rfl) k_ingotlaw17_few) <|
  .cons (.of Try.func15 (by kernel_rfl) k_dict_Worth) <|
  .cons (.of Try.func17 (by kernel_rfl) k_dict_Cut) <|
  .cons (.of Try.func28 (by kernel_rfl) k_bytes_Join) <|
  .cons (.of Try.func20 (by kernel_rfl) k_dict_Join) <|
  .cons (.of Try.func12 (by kernel_rfl) k_dict_Expand) <|
  .cons (.of Try.func25 (by kernel_rfl) k_bytes_Compare) <|
  .cons (.of Try.func24 (by kernel_rfl) k_slices_BinarySearchFunc_dict_words_Sbyte_Sbyte) <|
  .cons (.of Try.func23 (by kernel_rfl) k_slices_Clone_Sbyte_byte) <|
  .cons (.of Try.func10 (by kernel_rfl) k_dict_Make) <|
  .cons (.of Try.func8 (by kernel_rfl) k_ingotlaw17_known) <|
  .cons (.of Try.func3 (by kernel_rfl) k_ingotlaw17_DictMakes) <|
  .nil

/-! what is known besides -/
def exts : FuncId → Option (List D → Option V) := fun f => if f = n_bytealg_MakeNoZero then some xMakeNoZero else if f = n_bytealg_Compare then some xCompare else if f = n_dict_rising then some xRising else none
def cfg : Cfg := { funcs := lk tbl, meth := fun _ _ => none, glob := fun _ => none, gobj := fun _ => none, intTy := fun _ => false, clip := fun f => clips.contains f, ext := exts }
-- CODE2
abbrev X_ingotlaw17_DictWorth : Kx := ⟨cfg, 0, [.t 6]⟩
theorem e_ingotlaw17_DictWorth : Oe cfg n_ingotlaw17_DictWorth 3 [.t 6] c_ingotlaw17_DictWorth := fun _ _ _ => evL_go (fn := i_ingotlaw17_DictWorth) rfl rfl _ _ _
theorem o_ingotlaw17_DictWorth (x0 x1 x2 : D) : Of X_ingotlaw17_DictWorth n_ingotlaw17_DictWorth [.d x0, .d x1, .d x2] c_ingotlaw17_DictWorth := e_ingotlaw17_DictWorth 0 _ _ rfl rfl
@[go_sem] theorem u_ingotlaw17_DictWorth : Uc cfg n_ingotlaw17_DictWorth := uc rfl
abbrev X_ingotlaw17_DictOrders : Kx := ⟨cfg, 0, [.t 6]⟩
theorem e_ingotlaw17_DictOrders : Oe cfg n_ingotlaw17_DictOrders 3 [.t 6] c_ingotlaw17_DictOrders := fun _ _ _ => evL_go (fn := i_ingotlaw17_DictOrders) rfl rfl _ _ _
theorem o_ingotlaw17_DictOrders (x0 x1 x2 : D) : Of X_ingotlaw17_DictOrders n_ingotlaw17_DictOrders [.d x0, .d x1, .d x2] c_ingotlaw17_DictOrders := e_ingotlaw17_DictOrders 0 _ _ rfl rfl
@[go_sem] theorem u_ingotlaw17_DictOrders : Uc cfg n_ingotlaw17_DictOrders := uc rfl
abbrev X_ingotlaw17_DictJoins : Kx := ⟨cfg, 0, [.t 4]⟩
theorem e_ingotlaw17_DictJoins : Oe cfg n_ingotlaw17_DictJoins 2 [.t 4] c_ingotlaw17_DictJoins := fun _ _ _ => evL_go (fn := i_ingotlaw17_DictJoins) rfl rfl _ _ _
theorem o_ingotlaw17_DictJoins (x0 x1 : D) : Of X_ingotlaw17_DictJoins n_ingotlaw17_DictJoins [.d x0, .d x1] c_ingotlaw17_DictJoins := e_ingotlaw17_DictJoins 0 _ _ rfl rfl
@[go_sem] theorem u_ingotlaw17_DictJoins : Uc cfg n_ingotlaw17_DictJoins := uc rfl
abbrev X_ingotref17_Expand : Kx := ⟨cfg, 0, [.t 4, .t 5]⟩
theorem e_ingotref17_Expand : Oe cfg n_ingotref17_Expand 2 [.t 4, .t 5] c_ingotref17_Expand := fun _ _ _ => evL_go (fn := i_ingotref17_Expand) rfl rfl _ _ _
theorem o_ingotref17_Expand (x0 x1 : D) : Of X_ingotref17_Expand n_ingotref17_Expand [.d x0, .d x1] c_ingotref17_Expand := e_ingotref17_Expand 0 _ _ rfl rfl
@[go_sem] theorem u_ingotref17_Expand : Uc cfg n_ingotref17_Expand := uc rfl
abbrev X_ingotref17_Cut : Kx := ⟨cfg, 0, [.t 4, .t 5]⟩
theorem e_ingotref17_Cut : Oe cfg n_ingotref17_Cut 2 [.t 4, .t 5] c_ingotref17_Cut := fun _ _ _ => evL_go (fn := i_ingotref17_Cut) rfl rfl _ _ _
theorem o_ingotref17_Cut (x0 x1 : D) : Of X_ingotref17_Cut n_ingotref17_Cut [.d x0, .d x1] c_ingotref17_Cut := e_ingotref17_Cut 0 _ _ rfl rfl
@[go_sem] theorem u_ingotref17_Cut : Uc cfg n_ingotref17_Cut := uc rfl
abbrev X_ingotlaw17_DictBytes : Kx := ⟨cfg, 0, [.t 8]⟩
theorem e_ingotlaw17_DictBytes : Oe cfg n_ingotlaw17_DictBytes 4 [.t 8] c_ingotlaw17_DictBytes := fun _ _ _ => evL_go (fn := i_ingotlaw17_DictBytes) rfl rfl _ _ _
theorem o_ingotlaw17_DictBytes (x0 x1 x2 x3 : D) : Of X_ingotlaw17_DictBytes n_ingotlaw17_DictBytes [.d x0, .d x1, .d x2, .d x3] c_ingotlaw17_DictBytes := e_ingotlaw17_DictBytes 0 _ _ rfl rfl
@[go_sem] theorem u_ingotlaw17_DictBytes : Uc cfg n_ingotlaw17_DictBytes := uc rfl
abbrev X_ingotref17_Worth : Kx := ⟨cfg, 0, [.t 4]⟩
theorem e_ingotref17_Worth : Oe cfg n_ingotref17_Worth 2 [.t 4] c_ingotref17_Worth := fun _ _ _ => evL_go (fn := i_ingotref17_Worth) rfl rfl _ _ _
theorem o_ingotref17_Worth (x0 x1 : D) : Of X_ingotref17_Worth n_ingotref17_Worth [.d x0, .d x1] c_ingotref17_Worth := e_ingotref17_Worth 0 _ _ rfl rfl
@[go_sem] theorem u_ingotref17_Worth : Uc cfg n_ingotref17_Worth := uc rfl
abbrev X_ingotlaw8_Same : Kx := ⟨cfg, 0, [.t 4]⟩
theorem e_ingotlaw8_Same : Oe cfg n_ingotlaw8_Same 2 [.t 4] c_ingotlaw8_Same := fun _ _ _ => evL_go (fn := i_ingotlaw8_Same) rfl rfl _ _ _
theorem o_ingotlaw8_Same (x0 x1 : D) : Of X_ingotlaw8_Same n_ingotlaw8_Same [.d x0, .d x1] c_ingotlaw8_Same := e_ingotlaw8_Same 0 _ _ rfl rfl
@[go_sem] theorem u_ingotlaw8_Same : Uc cfg n_ingotlaw8_Same := uc rfl
abbrev X_ingotlaw17_Same : Kx := ⟨cfg, 0, [.t 4]⟩
theorem e_ingotlaw17_Same : Oe cfg n_ingotlaw17_Same 2 [.t 4] c_ingotlaw17_Same := fun _ _ _ => evL_go (fn := i_ingotlaw17_Same) rfl rfl _ _ _
theorem o_ingotlaw17_Same (x0 x1 : D) : Of X_ingotlaw17_Same n_ingotlaw17_Same [.d x0, .d x1] c_ingotlaw17_Same := e_ingotlaw17_Same 0 _ _ rfl rfl
@[go_sem] theorem u_ingotlaw17_Same : Uc cfg n_ingotlaw17_Same := uc rfl
abbrev X_ingotref17_Make : Kx := ⟨cfg, 0, [.t 2, .t 3]⟩
theorem e_ingotref17_Make : Oe cfg n_ingotref17_Make 1 [.t 2, .t 3] c_ingotref17_Make := fun _ _ _ => evL_go (fn := i_ingotref17_Make) rfl rfl _ _ _
theorem o_ingotref17_Make (x0 : D) : Of X_ingotref17_Make n_ingotref17_Make [.d x0] c_ingotref17_Make := e_ingotref17_Make 0 _ _ rfl rfl
@[go_sem] theorem u_ingotref17_Make : Uc cfg n_ingotref17_Make := uc rfl
abbrev X_ingotlaw17_few : Kx := ⟨cfg, 0, [.t 2]⟩
theorem e_ingotlaw17_few : Oe cfg n_ingotlaw17_few 1 [.t 2] c_ingotlaw17_few := fun _ _ _ => evL_go (fn := i_ingotlaw17_few) rfl rfl _ _ _
theorem o_ingotlaw17_few (x0 : D) : Of X_ingotlaw17_few n_ingotlaw17_few [.d x0] c_ingotlaw17_few := e_ingotlaw17_few 0 _ _ rfl rfl
@[go_sem] theorem u_ingotlaw17_few : Uc cfg n_ingotlaw17_few := uc rfl
abbrev X_dict_Worth : Kx := ⟨cfg, 0, [.t 4]⟩
theorem e_dict_Worth : Oe cfg n_dict_Worth 2 [.t 4] c_dict_Worth := fun _ _ _ => evL_go (fn := i_dict_Worth) rfl rfl _ _ _
theorem o_dict_Worth (x0 x1 : D) : Of X_dict_Worth n_dict_Worth [.d x0, .d x1] c_dict_Worth := e_dict_Worth 0 _ _ rfl rfl
@[go_sem] theorem u_dict_Worth : Uc cfg n_dict_Worth := uc rfl
abbrev X_dict_Cut : Kx := ⟨cfg, 0, [.t 4, .t 5]⟩
theorem e_dict_Cut : Oe cfg n_dict_Cut 2 [.t 4, .t 5] c_dict_Cut := fun _ _ _ => evL_go (fn := i_dict_Cut) rfl rfl _ _ _
theorem o_dict_Cut (x0 x1 : D) : Of X_dict_Cut n_dict_Cut [.d x0, .d x1] c_dict_Cut := e_dict_Cut 0 _ _ rfl rfl
@[go_sem] theorem u_dict_Cut : Uc cfg n_dict_Cut := uc rfl
abbrev X_bytes_Join : Kx := ⟨cfg, 0, [.t 4]⟩
theorem e_bytes_Join : Oe cfg n_bytes_Join 2 [.t 4] c_bytes_Join := fun _ _ _ => evL_go (fn := i_bytes_Join) rfl rfl _ _ _
theorem o_bytes_Join (x0 x1 : D) : Of X_bytes_Join n_bytes_Join [.d x0, .d x1] c_bytes_Join := e_bytes_Join 0 _ _ rfl rfl
@[go_sem] theorem u_bytes_Join : Uc cfg n_bytes_Join := uc rfl
abbrev X_dict_Join : Kx := ⟨cfg, 0, [.t 2, .t 3]⟩
theorem e_dict_Join : Oe cfg n_dict_Join 1 [.t 2, .t 3] c_dict_Join := fun _ _ _ => evL_go (fn := i_dict_Join) rfl rfl _ _ _
theorem o_dict_Join (x0 : D) : Of X_dict_Join n_dict_Join [.d x0] c_dict_Join := e_dict_Join 0 _ _ rfl rfl
@[go_sem] theorem u_dict_Join : Uc cfg n_dict_Join := uc rfl
abbrev X_dict_Expand : Kx := ⟨cfg, 0, [.t 4, .t 5]⟩
theorem e_dict_Expand : Oe cfg n_dict_Expand 2 [.t 4, .t 5] c_dict_Expand := fun _ _ _ => evL_go (fn := i_dict_Expand) rfl rfl _ _ _
theorem o_dict_Expand (x0 x1 : D) : Of X_dict_Expand n_dict_Expand [.d x0, .d x1] c_dict_Expand := e_dict_Expand 0 _ _ rfl rfl
@[go_sem] theorem u_dict_Expand : Uc cfg n_dict_Expand := uc rfl
abbrev X_bytes_Compare : Kx := ⟨cfg, 0, [.t 4]⟩
theorem e_bytes_Compare : Oe cfg n_bytes_Compare 2 [.t 4] c_bytes_Compare := fun _ _ _ => evL_go (fn := i_bytes_Compare) rfl rfl _ _ _
theorem o_bytes_Compare (x0 x1 : D) : Of X_bytes_Compare n_bytes_Compare [.d x0, .d x1] c_bytes_Compare := e_bytes_Compare 0 _ _ rfl rfl
@[go_sem] theorem u_bytes_Compare : Uc cfg n_bytes_Compare := uc rfl
abbrev X_slices_BinarySearchFunc_dict_words_Sbyte_Sbyte : Kx := ⟨cfg, 0, [.t 6, .t 7]⟩
theorem e_slices_BinarySearchFunc_dict_words_Sbyte_Sbyte : Oe cfg n_slices_BinarySearchFunc_dict_words_Sbyte_Sbyte 3 [.t 6, .t 7] c_slices_BinarySearchFunc_dict_words_Sbyte_Sbyte := fun _ _ _ => evL_go (fn := i_slices_BinarySearchFunc_dict_words_Sbyte_Sbyte) rfl rfl _ _ _
theorem o_slices_BinarySearchFunc_dict_words_Sbyte_Sbyte (x0 x1 x2 : D) : Of X_slices_BinarySearchFunc_dict_words_Sbyte_Sbyte n_slices_BinarySearchFunc_dict_words_Sbyte_Sbyte [.d x0, .d x1, .d x2] c_slices_BinarySearchFunc_dict_words_Sbyte_Sbyte := e_slices_BinarySearchFunc_dict_words_Sbyte_Sbyte 0 _ _ rfl rfl
@[go_sem] theorem u_slices_BinarySearchFunc_dict_words_Sbyte_Sbyte : Uc cfg n_slices_BinarySearchFunc_dict_words_Sbyte_Sbyte := uc rfl
abbrev X_slices_Clone_Sbyte_byte : Kx := ⟨cfg, 0, [.t 2]⟩
theorem e_slices_Clone_Sbyte_byte : Oe cfg n_slices_Clone_Sbyte_byte 1 [.t 2] c_slices_Clone_Sbyte_byte := fun _ _ _ => evL_go (fn := i_slices_Clone_Sbyte_byte) rfl rfl _ _ _
theorem o_slices_Clone_Sbyte_byte (x0 : D) : Of X_slices_Clone_Sbyte_byte n_slices_Clone_Sbyte_byte [.d x0] c_slices_Clone_Sbyte_byte := e_slices_Clone_Sbyte_byte 0 _ _ rfl rfl
@[go_sem] theorem u_slices_Clone_Sbyte_byte : Uc cfg n_slices_Clone_Sbyte_byte := uc rfl
abbrev X_dict_Make : Kx := ⟨cfg, 0, [.cell 2 (some 2)]⟩
theorem e_dict_Make : Oe cfg n_dict_Make 1 [.cell 2 (some 2)] c_dict_Make := fun _ _ _ => evL_go (fn := i_dict_Make) rfl rfl _ _ _
theorem o_dict_Make (x0 : D) : Of X_dict_Make n_dict_Make [.d x0] c_dict_Make := e_dict_Make 0 _ _ rfl rfl
@[go_sem] theorem u_dict_Make : Uc cfg n_dict_Make := uc rfl
abbrev X_ingotlaw17_known : Kx := ⟨cfg, 0, [.t 0]⟩
theorem e_ingotlaw17_known : Oe cfg n_ingotlaw17_known 0 [.t 0] c_ingotlaw17_known := fun _ _ _ => evL_go (fn := i_ingotlaw17_known) rfl rfl _ _ _
theorem o_ingotlaw17_known : Of X_ingotlaw17_known n_ingotlaw17_known [] c_ingotlaw17_known := e_ingotlaw17_known 0 _ _ rfl rfl
@[go_sem] theorem u_ingotlaw17_known : Uc cfg n_ingotlaw17_known := uc rfl
abbrev X_ingotlaw17_DictMakes : Kx := ⟨cfg, 0, [.t 4]⟩
theorem e_ingotlaw17_DictMakes : Oe cfg n_ingotlaw17_DictMakes 2 [.t 4] c_ingotlaw17_DictMakes := fun _ _ _ => evL_go (fn := i_ingotlaw17_DictMakes) rfl rfl _ _ _
theorem o_ingotlaw17_DictMakes (x0 x1 : D) : Of X_ingotlaw17_DictMakes n_ingotlaw17_DictMakes [.d x0, .d x1] c_ingotlaw17_DictMakes := e_ingotlaw17_DictMakes 0 _ _ rfl rfl
@[go_sem] theorem u_ingotlaw17_DictMakes : Uc cfg n_ingotlaw17_DictMakes := uc rfl
@[go_sem] theorem u_bytealg_MakeNoZero : Uc cfg n_bytealg_MakeNoZero := uc rfl
@[go_sem] theorem u_bytealg_Compare : Uc cfg n_bytealg_Compare := uc rfl
@[go_sem] theorem u_dict_rising : Uc cfg n_dict_rising := uc rfl
@[go_sem] theorem u_slices_Clip_Sint64_int64 : Uk cfg n_slices_Clip_Sint64_int64 := uk rfl
@[go_sem] theorem u_slices_Clip_SSbyte_Sbyte : Uk cfg n_slices_Clip_SSbyte_Sbyte := uk rfl
@[go_sem] theorem u_slices_Clip_Sbyte_byte : Uk cfg n_slices_Clip_Sbyte_byte := uk rfl

end Go.Proofs.Ytghhloejmikdfaa
