/- The evaluator's code of the functions that the rows reach, printed by program, checked against the program. -/
import Derived.Test.YteckebocflnkdaaDoorL9
import Derived.Test.YteckebocflnkdaaDoorChecked
namespace Go.Proofs.YteckebocflnkdaaDoor
open Go.Ev Go
variable {X : Kx} {K : List Kf} {s : St}

def n_ingotlaw11_DeciStreams : FuncId := 3
def n_ingotlaw11_DeciTexts : FuncId := 4
def n_ingotlaw11_DeciScales : FuncId := 5
def n_ingotlaw11_DeciOrder : FuncId := 6
def n_ingotlaw11_DeciAdds : FuncId := 7
def n_ingotlaw11_DeciSigns : FuncId := 8
def n_ingotlaw11_DeciChain : FuncId := 9
def n_ingotlaw11_known : FuncId := 10
def n_deci_Decode : FuncId := 11
def n_ingotref11_Decode : FuncId := 12
def n_deci_Encode : FuncId := 13
def n_ingotlaw8_Same : FuncId := 14
def n_ingotref11_Encode : FuncId := 15
def n_ingotlaw11_scale : FuncId := 16
def n_deci_Text : FuncId := 17
def n_deci_Parse : FuncId := 18
def n_ingotref11_Parse : FuncId := 19
def n_ingotref11_Text : FuncId := 20
def n_deci_Digits : FuncId := 21
def n_ingotref11_Digits : FuncId := 22
def n_deci_Rescale : FuncId := 23
def n_ingotref11_Rescale : FuncId := 24
def n_deci_Compare : FuncId := 25
def n_ingotref11_Compare : FuncId := 26
def n_ingotref1_Sub : FuncId := 27
def n_nums_Var : FuncId := 28
def n_nums_Zag : FuncId := 29
def n_slices_Clip_Sint64_int64 : FuncId := 30
def n_ingotref1_Var : FuncId := 31
def n_ingotref1_Zag : FuncId := 32
def n_nums_PutVar : FuncId := 33
def n_nums_Zig : FuncId := 34
def n_slices_Clip_Sbyte_byte : FuncId := 35
def n_ingotref1_PutVar : FuncId := 36
def n_ingotref1_Zig : FuncId := 37
def n_strconv_FormatUint : FuncId := 38
def n_deci_size : FuncId := 39
def n_strings_Repeat : FuncId := 40
def n_strings_CutPrefix : FuncId := 41
def n_strings_Cut : FuncId := 42
def n_deci_plain : FuncId := 43
def n_nums_Mul : FuncId := 44
def n_nums_Add : FuncId := 45
def n_ingotref1_Mul : FuncId := 46
def n_ingotref1_Add : FuncId := 47
def n_ingotref11_digits : FuncId := 48
def n_ingotref11_size : FuncId := 49
def n_deci_power : FuncId := 50
def n_bits_Mul64 : FuncId := 51
def n_slices_Clone_Sbyte_byte : FuncId := 52
def n_stringslite_CutPrefix : FuncId := 60
def n_stringslite_Cut : FuncId := 61
def n_strings_Trim : FuncId := 62
def n_nums_size : FuncId := 63
def n_ingotref1_size : FuncId := 64
def n_stringslite_HasPrefix : FuncId := 70
def n_stringslite_Index : FuncId := 73
/-! ingot/ingotlaw11.DeciChain -/
@[go_sem] def r_ingotlaw11_DeciChain_0_o : List IOper := [
  ⟨(some 12), none, .asg (.c (.bool false))⟩]
def r_ingotlaw11_DeciChain_0 : ICode := .region r_ingotlaw11_DeciChain_0_o [] [0, 1, 2, 3, 4, 5]
@[go_sem] theorem r_ingotlaw11_DeciChain_0_u : go X (.c r_ingotlaw11_DeciChain_0 :: K) s = goR X r_ingotlaw11_DeciChain_0_o [0, 1, 2, 3, 4, 5] K s := go_region _ _
@[go_sem] def r_ingotlaw11_DeciChain_1_o : List IOper := [
  ⟨(some 16), none, .call false n_ingotlaw11_known []⟩,
  ⟨(some 17), none, .un .not (.t 16)⟩]
def r_ingotlaw11_DeciChain_1 : ICode := .region r_ingotlaw11_DeciChain_1_o [] [0, 1, 2, 3, 4, 5, 17]
@[go_sem] theorem r_ingotlaw11_DeciChain_1_u : go X (.c r_ingotlaw11_DeciChain_1 :: K) s = goR X r_ingotlaw11_DeciChain_1_o [0, 1, 2, 3, 4, 5, 17] K s := go_region _ _
@[go_sem] def r_ingotlaw11_DeciChain_2_o : List IOper := [
  ⟨(some 12), none, .asg (.c (.bool false))⟩]
def r_ingotlaw11_DeciChain_2 : ICode := .region r_ingotlaw11_DeciChain_2_o [] [12]
@[go_sem] theorem r_ingotlaw11_DeciChain_2_u : go X (.c r_ingotlaw11_DeciChain_2 :: K) s = goR X r_ingotlaw11_DeciChain_2_o [12] K s := go_region _ _
@[go_sem] def r_ingotlaw11_DeciChain_3_o : List IOper := [
  ⟨(some 18), none, .mv (.t 1)⟩,
  ⟨(some 19), none, .bin .lss (.t 18) (.c (.int .i64 0))⟩,
  ⟨(some 20), none, .mv (.t 19)⟩,
  ⟨(some 21), some (20, false), .mv (.t 1)⟩,
  ⟨(some 22), some (20, false), .bin .gtr (.t 21) (.c (.int .i64 18))⟩,
  ⟨(some 23), none, .pick (.t 20) (.c (.bool true)) (.t 22)⟩,
  ⟨(some 24), none, .mv (.t 23)⟩,
  ⟨(some 25), some (24, false), .mv (.t 3)⟩,
  ⟨(some 26), some (24, false), .bin .lss (.t 25) (.c (.int .i64 0))⟩,
  ⟨(some 27), none, .pick (.t 24) (.c (.bool true)) (.t 26)⟩,
  ⟨(some 28), none, .mv (.t 27)⟩,
  ⟨(some 29), some (28, false), .mv (.t 3)⟩,
  ⟨(some 30), some (28, false), .bin .gtr (.t 29) (.c (.int .i64 18))⟩,
  ⟨(some 31), none, .pick (.t 28) (.c (.bool true)) (.t 30)⟩,
  ⟨(some 32), none, .mv (.t 31)⟩,
  ⟨(some 33), some (32, false), .mv (.t 5)⟩,
  ⟨(some 34), some (32, false), .bin .lss (.t 33) (.c (.int .i64 0))⟩,
  ⟨(some 35), none, .pick (.t 32) (.c (.bool true)) (.t 34)⟩,
  ⟨(some 36), none, .mv (.t 35)⟩,
  ⟨(some 37), some (36, false), .mv (.t 5)⟩,
  ⟨(some 38), some (36, false), .bin .gtr (.t 37) (.c (.int .i64 18))⟩,
  ⟨(some 39), none, .pick (.t 36) (.c (.bool true)) (.t 38)⟩]
def r_ingotlaw11_DeciChain_3 : ICode := .region r_ingotlaw11_DeciChain_3_o [] [0, 1, 2, 3, 4, 5, 39]
@[go_sem] theorem r_ingotlaw11_DeciChain_3_u : go X (.c r_ingotlaw11_DeciChain_3 :: K) s = goR X r_ingotlaw11_DeciChain_3_o [0, 1, 2, 3, 4, 5, 39] K s := go_region _ _
@[go_sem] def r_ingotlaw11_DeciChain_4_o : List IOper := [
  ⟨(some 12), none, .asg (.c (.bool true))⟩]
def r_ingotlaw11_DeciChain_4 : ICode := .region r_ingotlaw11_DeciChain_4_o [] [12]
@[go_sem] theorem r_ingotlaw11_DeciChain_4_u : go X (.c r_ingotlaw11_DeciChain_4 :: K) s = goR X r_ingotlaw11_DeciChain_4_o [12] K s := go_region _ _
@[go_sem] def r_ingotlaw11_DeciChain_5_o : List IOper := [
  ⟨(some 40), none, .mv (.t 0)⟩,
  ⟨(some 41), none, .mv (.t 1)⟩,
  ⟨(some 42), none, .mv (.t 2)⟩,
  ⟨(some 43), none, .mv (.t 3)⟩,
  ⟨(some 44), none, .call false n_deci_Compare [(.t 40), (.t 41), (.t 42), (.t 43)]⟩,
  ⟨(some 13), none, .asg (.t 44)⟩]
def r_ingotlaw11_DeciChain_5 : ICode := .region r_ingotlaw11_DeciChain_5_o [] [0, 1, 2, 3, 4, 5, 13]
@[go_sem] theorem r_ingotlaw11_DeciChain_5_u : go X (.c r_ingotlaw11_DeciChain_5 :: K) s = goR X r_ingotlaw11_DeciChain_5_o [0, 1, 2, 3, 4, 5, 13] K s := go_region _ _
@[go_sem] def r_ingotlaw11_DeciChain_6_o : List IOper := [
  ⟨(some 45), none, .mv (.t 2)⟩,
  ⟨(some 46), none, .mv (.t 3)⟩,
  ⟨(some 47), none, .mv (.t 4)⟩,
  ⟨(some 48), none, .mv (.t 5)⟩,
  ⟨(some 49), none, .call false n_deci_Compare [(.t 45), (.t 46), (.t 47), (.t 48)]⟩,
  ⟨(some 14), none, .asg (.t 49)⟩]
def r_ingotlaw11_DeciChain_6 : ICode := .region r_ingotlaw11_DeciChain_6_o [] [0, 1, 4, 5, 13, 14]
@[go_sem] theorem r_ingotlaw11_DeciChain_6_u : go X (.c r_ingotlaw11_DeciChain_6 :: K) s = goR X r_ingotlaw11_DeciChain_6_o [0, 1, 4, 5, 13, 14] K s := go_region _ _
@[go_sem] def r_ingotlaw11_DeciChain_7_o : List IOper := [
  ⟨(some 50), none, .mv (.t 0)⟩,
  ⟨(some 51), none, .mv (.t 1)⟩,
  ⟨(some 52), none, .mv (.t 4)⟩,
  ⟨(some 53), none, .mv (.t 5)⟩,
  ⟨(some 54), none, .call false n_deci_Compare [(.t 50), (.t 51), (.t 52), (.t 53)]⟩,
  ⟨(some 15), none, .asg (.t 54)⟩]
def r_ingotlaw11_DeciChain_7 : ICode := .region r_ingotlaw11_DeciChain_7_o [] [13, 14, 15]
@[go_sem] theorem r_ingotlaw11_DeciChain_7_u : go X (.c r_ingotlaw11_DeciChain_7 :: K) s = goR X r_ingotlaw11_DeciChain_7_o [13, 14, 15] K s := go_region _ _
@[go_sem] def r_ingotlaw11_DeciChain_8_o : List IOper := [
  ⟨(some 55), none, .mv (.t 13)⟩,
  ⟨(some 56), none, .bin .gtr (.t 55) (.c (.int .i64 0))⟩,
  ⟨(some 57), none, .mv (.t 56)⟩,
  ⟨(some 58), some (57, false), .mv (.t 14)⟩,
  ⟨(some 59), some (57, false), .bin .gtr (.t 58) (.c (.int .i64 0))⟩,
  ⟨(some 60), none, .pick (.t 57) (.c (.bool true)) (.t 59)⟩,
  ⟨(some 61), none, .mv (.t 60)⟩,
  ⟨(some 62), some (61, false), .mv (.t 15)⟩,
  ⟨(some 63), some (61, false), .bin .leq (.t 62) (.c (.int .i64 0))⟩,
  ⟨(some 64), none, .pick (.t 61) (.c (.bool true)) (.t 63)⟩,
  ⟨(some 65), none, .mv (.t 64)⟩,
  ⟨(some 66), some (65, true), .mv (.t 13)⟩,
  ⟨(some 67), some (65, true), .bin .lss (.t 66) (.c (.int .i64 0))⟩,
  ⟨(some 68), some (65, true), .mv (.t 67)⟩,
  ⟨(some 69), some (68, false), .mv (.t 14)⟩,
  ⟨(some 70), some (68, false), .bin .lss (.t 69) (.c (.int .i64 0))⟩,
  ⟨(some 71), some (65, true), .pick (.t 68) (.c (.bool true)) (.t 70)⟩,
  ⟨(some 72), some (65, true), .mv (.t 71)⟩,
  ⟨(some 73), some (72, false), .mv (.t 15)⟩,
  ⟨(some 74), some (72, false), .bin .geq (.t 73) (.c (.int .i64 0))⟩,
  ⟨(some 75), some (65, true), .pick (.t 72) (.c (.bool true)) (.t 74)⟩,
  ⟨(some 76), none, .pick (.t 65) (.t 75) (.c (.bool false))⟩,
  ⟨(some 12), none, .asg (.t 76)⟩]
def r_ingotlaw11_DeciChain_8 : ICode := .region r_ingotlaw11_DeciChain_8_o [] [12]
@[go_sem] theorem r_ingotlaw11_DeciChain_8_u : go X (.c r_ingotlaw11_DeciChain_8 :: K) s = goR X r_ingotlaw11_DeciChain_8_o [12] K s := go_region _ _
def c_ingotlaw11_DeciChain : ICode := (.seq r_ingotlaw11_DeciChain_0 (.seq r_ingotlaw11_DeciChain_1 (.cond (.t 17) (.seq r_ingotlaw11_DeciChain_2 .ret) (.seq r_ingotlaw11_DeciChain_3 (.cond (.t 39) (.seq r_ingotlaw11_DeciChain_4 .ret) (.seq r_ingotlaw11_DeciChain_5 (.seq r_ingotlaw11_DeciChain_6 (.seq r_ingotlaw11_DeciChain_7 (.seq r_ingotlaw11_DeciChain_8 .ret)))))))))
def i_ingotlaw11_DeciChain : IFunc := ⟨6, [.t 12], c_ingotlaw11_DeciChain⟩
def a_ingotlaw11_DeciChain : Advice := ⟨[], [(8, [12]), (7, [13, 14, 15]), (6, [0, 1, 4, 5, 13, 14]), (5, [0, 1, 2, 3, 4, 5, 13]), (4, [12]), (3, [0, 1, 2, 3, 4, 5, 39]), (2, [12]), (1, [0, 1, 2, 3, 4, 5, 17]), (0, [0, 1, 2, 3, 4, 5])], [], [], []⟩
/-! ingot/ingotlaw11.DeciSigns -/
@[go_sem] def r_ingotlaw11_DeciSigns_0_o : List IOper := [
  ⟨(some 4), none, .asg (.c (.bool false))⟩]
def r_ingotlaw11_DeciSigns_0 : ICode := .region r_ingotlaw11_DeciSigns_0_o [] [0, 1]
@[go_sem] theorem r_ingotlaw11_DeciSigns_0_u : go X (.c r_ingotlaw11_DeciSigns_0 :: K) s = goR X r_ingotlaw11_DeciSigns_0_o [0, 1] K s := go_region _ _
@[go_sem] def r_ingotlaw11_DeciSigns_1_o : List IOper := [
  ⟨(some 7), none, .call false n_ingotlaw11_known []⟩,
  ⟨(some 8), none, .un .not (.t 7)⟩]
def r_ingotlaw11_DeciSigns_1 : ICode := .region r_ingotlaw11_DeciSigns_1_o [] [0, 1, 8]
@[go_sem] theorem r_ingotlaw11_DeciSigns_1_u : go X (.c r_ingotlaw11_DeciSigns_1 :: K) s = goR X r_ingotlaw11_DeciSigns_1_o [0, 1, 8] K s := go_region _ _
@[go_sem] def r_ingotlaw11_DeciSigns_2_o : List IOper := [
  ⟨(some 4), none, .asg (.c (.bool false))⟩]
def r_ingotlaw11_DeciSigns_2 : ICode := .region r_ingotlaw11_DeciSigns_2_o [] [4]
@[go_sem] theorem r_ingotlaw11_DeciSigns_2_u : go X (.c r_ingotlaw11_DeciSigns_2 :: K) s = goR X r_ingotlaw11_DeciSigns_2_o [4] K s := go_region _ _
@[go_sem] def r_ingotlaw11_DeciSigns_3_o : List IOper := [
  ⟨(some 9), none, .mv (.t 1)⟩,
  ⟨(some 10), none, .bin .lss (.t 9) (.c (.int .i64 0))⟩,
  ⟨(some 11), none, .mv (.t 10)⟩,
  ⟨(some 12), some (11, false), .mv (.t 1)⟩,
  ⟨(some 13), some (11, false), .bin .gtr (.t 12) (.c (.int .i64 18))⟩,
  ⟨(some 14), none, .pick (.t 11) (.c (.bool true)) (.t 13)⟩,
  ⟨(some 15), none, .mv (.t 14)⟩,
  ⟨(some 16), some (15, false), .mv (.t 0)⟩,
  ⟨(some 17), some (15, false), .bin .leq (.t 16) (.c (.int .i64 0))⟩,
  ⟨(some 18), none, .pick (.t 15) (.c (.bool true)) (.t 17)⟩]
def r_ingotlaw11_DeciSigns_3 : ICode := .region r_ingotlaw11_DeciSigns_3_o [] [0, 1, 18]
@[go_sem] theorem r_ingotlaw11_DeciSigns_3_u : go X (.c r_ingotlaw11_DeciSigns_3 :: K) s = goR X r_ingotlaw11_DeciSigns_3_o [0, 1, 18] K s := go_region _ _
@[go_sem] def r_ingotlaw11_DeciSigns_4_o : List IOper := [
  ⟨(some 4), none, .asg (.c (.bool true))⟩]
def r_ingotlaw11_DeciSigns_4 : ICode := .region r_ingotlaw11_DeciSigns_4_o [] [4]
@[go_sem] theorem r_ingotlaw11_DeciSigns_4_u : go X (.c r_ingotlaw11_DeciSigns_4 :: K) s = goR X r_ingotlaw11_DeciSigns_4_o [4] K s := go_region _ _
@[go_sem] def r_ingotlaw11_DeciSigns_5_o : List IOper := [
  ⟨(some 5), none, .asg (.c (.int .i64 1))⟩]
def r_ingotlaw11_DeciSigns_5 : ICode := .region r_ingotlaw11_DeciSigns_5_o [] [0, 1, 5]
@[go_sem] theorem r_ingotlaw11_DeciSigns_5_u : go X (.c r_ingotlaw11_DeciSigns_5 :: K) s = goR X r_ingotlaw11_DeciSigns_5_o [0, 1, 5] K s := go_region _ _
@[go_sem] def r_ingotlaw11_DeciSigns_6_o : List IOper := [
  ⟨(some 19), none, .mv (.t 0)⟩,
  ⟨(some 6), none, .asg (.t 19)⟩]
def r_ingotlaw11_DeciSigns_6 : ICode := .region r_ingotlaw11_DeciSigns_6_o [] [0, 1, 5, 6]
@[go_sem] theorem r_ingotlaw11_DeciSigns_6_u : go X (.c r_ingotlaw11_DeciSigns_6 :: K) s = goR X r_ingotlaw11_DeciSigns_6_o [0, 1, 5, 6] K s := go_region _ _
@[go_sem] def r_ingotlaw11_DeciSigns_7_o : List IOper := [
  ⟨(some 20), none, .mv (.t 6)⟩,
  ⟨(some 21), none, .bin .geq (.t 20) (.c (.int .i64 10))⟩]
def r_ingotlaw11_DeciSigns_7 : ICode := .region r_ingotlaw11_DeciSigns_7_o [] [0, 1, 5, 6, 21]
@[go_sem] theorem r_ingotlaw11_DeciSigns_7_u : go X (.c r_ingotlaw11_DeciSigns_7 :: K) s = goR X r_ingotlaw11_DeciSigns_7_o [0, 1, 5, 6, 21] K s := go_region _ _
@[go_sem] def r_ingotlaw11_DeciSigns_8_o : List IOper := [
  ⟨(some 24), none, .mv (.t 5)⟩,
  ⟨(some 25), none, .bin .add (.t 24) (.c (.int .i64 1))⟩,
  ⟨(some 5), none, .asg (.t 25)⟩]
def r_ingotlaw11_DeciSigns_8 : ICode := .region r_ingotlaw11_DeciSigns_8_o [] [0, 1, 5, 6]
@[go_sem] theorem r_ingotlaw11_DeciSigns_8_u : go X (.c r_ingotlaw11_DeciSigns_8 :: K) s = goR X r_ingotlaw11_DeciSigns_8_o [0, 1, 5, 6] K s := go_region _ _
@[go_sem] def r_ingotlaw11_DeciSigns_9_o : List IOper := [
  ⟨(some 22), none, .mv (.t 6)⟩,
  ⟨(some 23), none, .bin .quo (.t 22) (.c (.int .i64 10))⟩,
  ⟨(some 6), none, .asg (.t 23)⟩]
def r_ingotlaw11_DeciSigns_9 : ICode := .region r_ingotlaw11_DeciSigns_9_o [] [0, 1, 5, 6]
@[go_sem] theorem r_ingotlaw11_DeciSigns_9_u : go X (.c r_ingotlaw11_DeciSigns_9 :: K) s = goR X r_ingotlaw11_DeciSigns_9_o [0, 1, 5, 6] K s := go_region _ _
def b_ingotlaw11_DeciSigns_10 : ICode := (.seq (.seq r_ingotlaw11_DeciSigns_7 (.cond (.t 21) .skip (.exit 0))) (.seq (.block 1 r_ingotlaw11_DeciSigns_8) r_ingotlaw11_DeciSigns_9))
@[go_sem] theorem b_ingotlaw11_DeciSigns_10_u : go X (.c b_ingotlaw11_DeciSigns_10 :: K) s = go X (.c (.seq (.seq r_ingotlaw11_DeciSigns_7 (.cond (.t 21) .skip (.exit 0))) (.seq (.block 1 r_ingotlaw11_DeciSigns_8) r_ingotlaw11_DeciSigns_9)) :: K) s := rfl
@[go_sem] def r_ingotlaw11_DeciSigns_11_o : List IOper := [
  ⟨(some 26), none, .mv (.t 0)⟩,
  ⟨(some 27), none, .bin .sub (.c (.int .i64 0)) (.t 26)⟩,
  ⟨(some 28), none, .mv (.t 1)⟩,
  ⟨(some 29), none, .call false n_deci_Text [(.t 27), (.t 28)]⟩,
  ⟨(some 30), none, .mv (.t 0)⟩,
  ⟨(some 31), none, .mv (.t 1)⟩,
  ⟨(some 32), none, .call false n_deci_Text [(.t 30), (.t 31)]⟩,
  ⟨(some 33), none, .bin .add (.c (.str [45])) (.t 32)⟩,
  ⟨(some 34), none, .bin .eql (.t 29) (.t 33)⟩,
  ⟨(some 35), none, .mv (.t 34)⟩,
  ⟨(some 36), some (35, true), .mv (.t 0)⟩,
  ⟨(some 37), some (35, true), .call false n_deci_Digits [(.t 36)]⟩,
  ⟨(some 38), some (35, true), .mv (.t 5)⟩,
  ⟨(some 39), some (35, true), .bin .eql (.t 37) (.t 38)⟩,
  ⟨(some 40), none, .pick (.t 35) (.t 39) (.c (.bool false))⟩,
  ⟨(some 41), none, .mv (.t 40)⟩,
  ⟨(some 42), some (41, true), .mv (.t 0)⟩,
  ⟨(some 43), some (41, true), .bin .sub (.c (.int .i64 0)) (.t 42)⟩,
  ⟨(some 44), some (41, true), .call false n_deci_Digits [(.t 43)]⟩,
  ⟨(some 45), some (41, true), .mv (.t 5)⟩,
  ⟨(some 46), some (41, true), .bin .eql (.t 44) (.t 45)⟩,
  ⟨(some 47), none, .pick (.t 41) (.t 46) (.c (.bool false))⟩,
  ⟨(some 48), none, .mv (.t 47)⟩,
  ⟨(some 49), some (48, true), .mv (.t 0)⟩,
  ⟨(some 50), some (48, true), .mv (.t 1)⟩,
  ⟨(some 51), some (48, true), .call false n_deci_Compare [(.t 49), (.t 50), (.c (.int .i64 0)), (.c (.int .i64 3))]⟩,
  ⟨(some 52), some (48, true), .bin .eql (.t 51) (.c (.int .i64 1))⟩,
  ⟨(some 53), none, .pick (.t 48) (.t 52) (.c (.bool false))⟩,
  ⟨(some 54), none, .mv (.t 53)⟩,
  ⟨(some 55), some (54, true), .mv (.t 0)⟩,
  ⟨(some 56), some (54, true), .bin .sub (.c (.int .i64 0)) (.t 55)⟩,
  ⟨(some 57), some (54, true), .mv (.t 1)⟩,
  ⟨(some 58), some (54, true), .call false n_deci_Compare [(.t 56), (.t 57), (.c (.int .i64 0)), (.c (.int .i64 3))]⟩,
  ⟨(some 59), some (54, true), .bin .eql (.t 58) (.c (.int .i64 (-1)))⟩,
  ⟨(some 60), none, .pick (.t 54) (.t 59) (.c (.bool false))⟩,
  ⟨(some 61), none, .mv (.t 60)⟩,
  ⟨(some 62), some (61, true), .mv (.t 0)⟩,
  ⟨(some 63), some (61, true), .bin .sub (.c (.int .i64 0)) (.t 62)⟩,
  ⟨(some 64), some (61, true), .mv (.t 1)⟩,
  ⟨(some 65), some (61, true), .mv (.t 0)⟩,
  ⟨(some 66), some (61, true), .mv (.t 1)⟩,
  ⟨(some 67), some (61, true), .call false n_deci_Compare [(.t 63), (.t 64), (.t 65), (.t 66)]⟩,
  ⟨(some 68), some (61, true), .bin .eql (.t 67) (.c (.int .i64 (-1)))⟩,
  ⟨(some 69), none, .pick (.t 61) (.t 68) (.c (.bool false))⟩,
  ⟨(some 4), none, .asg (.t 69)⟩]
def r_ingotlaw11_DeciSigns_11 : ICode := .region r_ingotlaw11_DeciSigns_11_o [] [4]
@[go_sem] theorem r_ingotlaw11_DeciSigns_11_u : go X (.c r_ingotlaw11_DeciSigns_11 :: K) s = goR X r_ingotlaw11_DeciSigns_11_o [4] K s := go_region _ _
def c_ingotlaw11_DeciSigns : ICode := (.seq r_ingotlaw11_DeciSigns_0 (.seq r_ingotlaw11_DeciSigns_1 (.cond (.t 8) (.seq r_ingotlaw11_DeciSigns_2 .ret) (.seq r_ingotlaw11_DeciSigns_3 (.cond (.t 18) (.seq r_ingotlaw11_DeciSigns_4 .ret) (.seq r_ingotlaw11_DeciSigns_5 (.seq (.seq r_ingotlaw11_DeciSigns_6 (.block 0 (.loop b_ingotlaw11_DeciSigns_10))) (.seq r_ingotlaw11_DeciSigns_11 .ret))))))))
def i_ingotlaw11_DeciSigns : IFunc := ⟨2, [.t 4], c_ingotlaw11_DeciSigns⟩
def a_ingotlaw11_DeciSigns : Advice := ⟨[], [(10, [4]), (8, [0, 1, 5, 6]), (9, [0, 1, 5, 6]), (7, [0, 1, 5, 6, 21]), (6, [0, 1, 5, 6]), (5, [0, 1, 5]), (4, [4]), (3, [0, 1, 18]), (2, [4]), (1, [0, 1, 8]), (0, [0, 1])], [], [], []⟩
/-! ingot/ingotlaw11.DeciAdds -/
@[go_sem] def r_ingotlaw11_DeciAdds_0_o : List IOper := [
  ⟨(some 6), none, .asg (.c (.bool false))⟩]
def r_ingotlaw11_DeciAdds_0 : ICode := .region r_ingotlaw11_DeciAdds_0_o [] [0, 1, 2]
@[go_sem] theorem r_ingotlaw11_DeciAdds_0_u : go X (.c r_ingotlaw11_DeciAdds_0 :: K) s = goR X r_ingotlaw11_DeciAdds_0_o [0, 1, 2] K s := go_region _ _
@[go_sem] def r_ingotlaw11_DeciAdds_1_o : List IOper := [
  ⟨(some 13), none, .call false n_ingotlaw11_known []⟩,
  ⟨(some 14), none, .un .not (.t 13)⟩]
def r_ingotlaw11_DeciAdds_1 : ICode := .region r_ingotlaw11_DeciAdds_1_o [] [0, 1, 2, 14]
@[go_sem] theorem r_ingotlaw11_DeciAdds_1_u : go X (.c r_ingotlaw11_DeciAdds_1 :: K) s = goR X r_ingotlaw11_DeciAdds_1_o [0, 1, 2, 14] K s := go_region _ _
@[go_sem] def r_ingotlaw11_DeciAdds_2_o : List IOper := [
  ⟨(some 6), none, .asg (.c (.bool false))⟩]
def r_ingotlaw11_DeciAdds_2 : ICode := .region r_ingotlaw11_DeciAdds_2_o [] [6]
@[go_sem] theorem r_ingotlaw11_DeciAdds_2_u : go X (.c r_ingotlaw11_DeciAdds_2 :: K) s = goR X r_ingotlaw11_DeciAdds_2_o [6] K s := go_region _ _
@[go_sem] def r_ingotlaw11_DeciAdds_3_o : List IOper := [
  ⟨(some 15), none, .mv (.t 1)⟩,
  ⟨(some 16), none, .bin .lss (.t 15) (.c (.int .i64 0))⟩,
  ⟨(some 17), none, .mv (.t 16)⟩,
  ⟨(some 18), some (17, false), .mv (.t 1)⟩,
  ⟨(some 19), some (17, false), .bin .gtr (.t 18) (.c (.int .i64 18))⟩,
  ⟨(some 20), none, .pick (.t 17) (.c (.bool true)) (.t 19)⟩,
  ⟨(some 21), none, .mv (.t 20)⟩,
  ⟨(some 22), some (21, false), .mv (.t 2)⟩,
  ⟨(some 23), some (21, false), .bin .lss (.t 22) (.c (.int .i64 0))⟩,
  ⟨(some 24), none, .pick (.t 21) (.c (.bool true)) (.t 23)⟩,
  ⟨(some 25), none, .mv (.t 24)⟩,
  ⟨(some 26), some (25, false), .mv (.t 2)⟩,
  ⟨(some 27), some (25, false), .mv (.t 1)⟩,
  ⟨(some 28), some (25, false), .bin .sub (.c (.int .i64 18)) (.t 27)⟩,
  ⟨(some 29), some (25, false), .bin .gtr (.t 26) (.t 28)⟩,
  ⟨(some 30), none, .pick (.t 25) (.c (.bool true)) (.t 29)⟩]
def r_ingotlaw11_DeciAdds_3 : ICode := .region r_ingotlaw11_DeciAdds_3_o [] [0, 1, 2, 30]
@[go_sem] theorem r_ingotlaw11_DeciAdds_3_u : go X (.c r_ingotlaw11_DeciAdds_3 :: K) s = goR X r_ingotlaw11_DeciAdds_3_o [0, 1, 2, 30] K s := go_region _ _
@[go_sem] def r_ingotlaw11_DeciAdds_4_o : List IOper := [
  ⟨(some 6), none, .asg (.c (.bool true))⟩]
def r_ingotlaw11_DeciAdds_4 : ICode := .region r_ingotlaw11_DeciAdds_4_o [] [6]
@[go_sem] theorem r_ingotlaw11_DeciAdds_4_u : go X (.c r_ingotlaw11_DeciAdds_4 :: K) s = goR X r_ingotlaw11_DeciAdds_4_o [6] K s := go_region _ _
@[go_sem] def r_ingotlaw11_DeciAdds_5_o : List IOper := [
  ⟨(some 31), none, .mv (.t 0)⟩,
  ⟨(some 32), none, .mv (.t 1)⟩,
  ⟨(some 33), none, .call false n_deci_Text [(.t 31), (.t 32)]⟩,
  ⟨(some 7), none, .asg (.t 33)⟩]
def r_ingotlaw11_DeciAdds_5 : ICode := .region r_ingotlaw11_DeciAdds_5_o [] [0, 1, 2, 7]
@[go_sem] theorem r_ingotlaw11_DeciAdds_5_u : go X (.c r_ingotlaw11_DeciAdds_5 :: K) s = goR X r_ingotlaw11_DeciAdds_5_o [0, 1, 2, 7] K s := go_region _ _
@[go_sem] def r_ingotlaw11_DeciAdds_6_o : List IOper := [
  ⟨(some 34), none, .mv (.t 1)⟩,
  ⟨(some 35), none, .bin .eql (.t 34) (.c (.int .i64 0))⟩,
  ⟨(some 36), none, .mv (.t 35)⟩,
  ⟨(some 37), some (36, true), .mv (.t 2)⟩,
  ⟨(some 38), some (36, true), .bin .gtr (.t 37) (.c (.int .i64 0))⟩,
  ⟨(some 39), none, .pick (.t 36) (.t 38) (.c (.bool false))⟩]
def r_ingotlaw11_DeciAdds_6 : ICode := .region r_ingotlaw11_DeciAdds_6_o [] [0, 1, 2, 7, 39]
@[go_sem] theorem r_ingotlaw11_DeciAdds_6_u : go X (.c r_ingotlaw11_DeciAdds_6 :: K) s = goR X r_ingotlaw11_DeciAdds_6_o [0, 1, 2, 7, 39] K s := go_region _ _
@[go_sem] def r_ingotlaw11_DeciAdds_7_o : List IOper := [
  ⟨(some 40), none, .mv (.t 7)⟩,
  ⟨(some 41), none, .bin .add (.t 40) (.c (.str [46]))⟩,
  ⟨(some 7), none, .asg (.t 41)⟩]
def r_ingotlaw11_DeciAdds_7 : ICode := .region r_ingotlaw11_DeciAdds_7_o [] [0, 1, 2, 7]
@[go_sem] theorem r_ingotlaw11_DeciAdds_7_u : go X (.c r_ingotlaw11_DeciAdds_7 :: K) s = goR X r_ingotlaw11_DeciAdds_7_o [0, 1, 2, 7] K s := go_region _ _
@[go_sem] def r_ingotlaw11_DeciAdds_8_o : List IOper := [
  ⟨(some 8), none, .asg (.c (.int .i64 0))⟩]
def r_ingotlaw11_DeciAdds_8 : ICode := .region r_ingotlaw11_DeciAdds_8_o [] [0, 1, 2, 7, 8]
@[go_sem] theorem r_ingotlaw11_DeciAdds_8_u : go X (.c r_ingotlaw11_DeciAdds_8 :: K) s = goR X r_ingotlaw11_DeciAdds_8_o [0, 1, 2, 7, 8] K s := go_region _ _
@[go_sem] def r_ingotlaw11_DeciAdds_9_o : List IOper := [
  ⟨(some 42), none, .mv (.t 8)⟩,
  ⟨(some 43), none, .mv (.t 2)⟩,
  ⟨(some 44), none, .bin .lss (.t 42) (.t 43)⟩]
def r_ingotlaw11_DeciAdds_9 : ICode := .region r_ingotlaw11_DeciAdds_9_o [] [0, 1, 2, 7, 8, 44]
@[go_sem] theorem r_ingotlaw11_DeciAdds_9_u : go X (.c r_ingotlaw11_DeciAdds_9 :: K) s = goR X r_ingotlaw11_DeciAdds_9_o [0, 1, 2, 7, 8, 44] K s := go_region _ _
@[go_sem] def r_ingotlaw11_DeciAdds_10_o : List IOper := [
  ⟨(some 47), none, .mv (.t 7)⟩,
  ⟨(some 48), none, .bin .add (.t 47) (.c (.str [48]))⟩,
  ⟨(some 7), none, .asg (.t 48)⟩]
def r_ingotlaw11_DeciAdds_10 : ICode := .region r_ingotlaw11_DeciAdds_10_o [] [0, 1, 2, 7, 8]
@[go_sem] theorem r_ingotlaw11_DeciAdds_10_u : go X (.c r_ingotlaw11_DeciAdds_10 :: K) s = goR X r_ingotlaw11_DeciAdds_10_o [0, 1, 2, 7, 8] K s := go_region _ _
@[go_sem] def r_ingotlaw11_DeciAdds_11_o : List IOper := [
  ⟨(some 45), none, .mv (.t 8)⟩,
  ⟨(some 46), none, .bin .add (.t 45) (.c (.int .i64 1))⟩,
  ⟨(some 8), none, .asg (.t 46)⟩]
def r_ingotlaw11_DeciAdds_11 : ICode := .region r_ingotlaw11_DeciAdds_11_o [] [0, 1, 2, 7, 8]
@[go_sem] theorem r_ingotlaw11_DeciAdds_11_u : go X (.c r_ingotlaw11_DeciAdds_11 :: K) s = goR X r_ingotlaw11_DeciAdds_11_o [0, 1, 2, 7, 8] K s := go_region _ _
def b_ingotlaw11_DeciAdds_12 : ICode := (.seq (.seq r_ingotlaw11_DeciAdds_9 (.cond (.t 44) .skip (.exit 0))) (.seq (.block 1 r_ingotlaw11_DeciAdds_10) r_ingotlaw11_DeciAdds_11))
@[go_sem] theorem b_ingotlaw11_DeciAdds_12_u : go X (.c b_ingotlaw11_DeciAdds_12 :: K) s = go X (.c (.seq (.seq r_ingotlaw11_DeciAdds_9 (.cond (.t 44) .skip (.exit 0))) (.seq (.block 1 r_ingotlaw11_DeciAdds_10) r_ingotlaw11_DeciAdds_11)) :: K) s := rfl
@[go_sem] def r_ingotlaw11_DeciAdds_13_o : List IOper := [
  ⟨(some 50), none, .mv (.t 7)⟩,
  ⟨(some 51), none, .mv (.t 1)⟩,
  ⟨(some 52), none, .mv (.t 2)⟩,
  ⟨(some 53), none, .bin .add (.t 51) (.t 52)⟩,
  ⟨(some 54), none, .call false n_deci_Parse [(.t 50), (.t 53)]⟩,
  ⟨(some 49), none, .mv (.t 54)⟩,
  ⟨(some 55), none, .ext (.t 49) 0⟩,
  ⟨(some 56), none, .ext (.t 49) 1⟩,
  ⟨(some 9), none, .asg (.t 55)⟩,
  ⟨(some 10), none, .asg (.t 56)⟩]
def r_ingotlaw11_DeciAdds_13 : ICode := .region r_ingotlaw11_DeciAdds_13_o [] [0, 1, 2, 9, 10]
@[go_sem] theorem r_ingotlaw11_DeciAdds_13_u : go X (.c r_ingotlaw11_DeciAdds_13 :: K) s = goR X r_ingotlaw11_DeciAdds_13_o [0, 1, 2, 9, 10] K s := go_region _ _
@[go_sem] def r_ingotlaw11_DeciAdds_14_o : List IOper := [
  ⟨(some 58), none, .mv (.t 0)⟩,
  ⟨(some 59), none, .mv (.t 1)⟩,
  ⟨(some 60), none, .mv (.t 1)⟩,
  ⟨(some 61), none, .mv (.t 2)⟩,
  ⟨(some 62), none, .bin .add (.t 60) (.t 61)⟩,
  ⟨(some 63), none, .call false n_deci_Rescale [(.t 58), (.t 59), (.t 62)]⟩,
  ⟨(some 57), none, .mv (.t 63)⟩,
  ⟨(some 64), none, .ext (.t 57) 0⟩,
  ⟨(some 65), none, .ext (.t 57) 1⟩,
  ⟨(some 11), none, .asg (.t 64)⟩,
  ⟨(some 12), none, .asg (.t 65)⟩]
def r_ingotlaw11_DeciAdds_14 : ICode := .region r_ingotlaw11_DeciAdds_14_o [] [0, 1, 2, 9, 10, 11, 12]
@[go_sem] theorem r_ingotlaw11_DeciAdds_14_u : go X (.c r_ingotlaw11_DeciAdds_14 :: K) s = goR X r_ingotlaw11_DeciAdds_14_o [0, 1, 2, 9, 10, 11, 12] K s := go_region _ _
@[go_sem] def r_ingotlaw11_DeciAdds_15_o : List IOper := [
  ⟨(some 66), none, .mv (.t 12)⟩,
  ⟨(some 67), none, .un .not (.t 66)⟩]
def r_ingotlaw11_DeciAdds_15 : ICode := .region r_ingotlaw11_DeciAdds_15_o [] [0, 1, 2, 9, 10, 11, 67]
@[go_sem] theorem r_ingotlaw11_DeciAdds_15_u : go X (.c r_ingotlaw11_DeciAdds_15 :: K) s = goR X r_ingotlaw11_DeciAdds_15_o [0, 1, 2, 9, 10, 11, 67] K s := go_region _ _
@[go_sem] def r_ingotlaw11_DeciAdds_16_o : List IOper := [
  ⟨(some 68), none, .mv (.t 10)⟩,
  ⟨(some 69), none, .bin .eql (.t 68) (.c (.int .i64 4))⟩,
  ⟨(some 70), none, .mv (.t 69)⟩,
  ⟨(some 71), some (70, true), .mv (.t 9)⟩,
  ⟨(some 72), some (70, true), .bin .eql (.t 71) (.c (.int .i64 0))⟩,
  ⟨(some 73), none, .pick (.t 70) (.t 72) (.c (.bool false))⟩,
  ⟨(some 6), none, .asg (.t 73)⟩]
def r_ingotlaw11_DeciAdds_16 : ICode := .region r_ingotlaw11_DeciAdds_16_o [] [6]
@[go_sem] theorem r_ingotlaw11_DeciAdds_16_u : go X (.c r_ingotlaw11_DeciAdds_16 :: K) s = goR X r_ingotlaw11_DeciAdds_16_o [6] K s := go_region _ _
@[go_sem] def r_ingotlaw11_DeciAdds_17_o : List IOper := [
  ⟨(some 74), none, .mv (.t 10)⟩,
  ⟨(some 75), none, .bin .eql (.t 74) (.c (.int .i64 0))⟩,
  ⟨(some 76), none, .mv (.t 75)⟩,
  ⟨(some 77), some (76, true), .mv (.t 9)⟩,
  ⟨(some 78), some (76, true), .mv (.t 11)⟩,
  ⟨(some 79), some (76, true), .bin .eql (.t 77) (.t 78)⟩,
  ⟨(some 80), none, .pick (.t 76) (.t 79) (.c (.bool false))⟩,
  ⟨(some 81), none, .mv (.t 80)⟩,
  ⟨(some 82), some (81, true), .mv (.t 0)⟩,
  ⟨(some 83), some (81, true), .mv (.t 1)⟩,
  ⟨(some 84), some (81, true), .mv (.t 9)⟩,
  ⟨(some 85), some (81, true), .mv (.t 1)⟩,
  ⟨(some 86), some (81, true), .mv (.t 2)⟩,
  ⟨(some 87), some (81, true), .bin .add (.t 85) (.t 86)⟩,
  ⟨(some 88), some (81, true), .call false n_deci_Compare [(.t 82), (.t 83), (.t 84), (.t 87)]⟩,
  ⟨(some 89), some (81, true), .bin .eql (.t 88) (.c (.int .i64 0))⟩,
  ⟨(some 90), none, .pick (.t 81) (.t 89) (.c (.bool false))⟩,
  ⟨(some 6), none, .asg (.t 90)⟩]
def r_ingotlaw11_DeciAdds_17 : ICode := .region r_ingotlaw11_DeciAdds_17_o [] [6]
@[go_sem] theorem r_ingotlaw11_DeciAdds_17_u : go X (.c r_ingotlaw11_DeciAdds_17 :: K) s = goR X r_ingotlaw11_DeciAdds_17_o [6] K s := go_region _ _
def c_ingotlaw11_DeciAdds : ICode := (.seq r_ingotlaw11_DeciAdds_0 (.seq r_ingotlaw11_DeciAdds_1 (.cond (.t 14) (.seq r_ingotlaw11_DeciAdds_2 .ret) (.seq r_ingotlaw11_DeciAdds_3 (.cond (.t 30) (.seq r_ingotlaw11_DeciAdds_4 .ret) (.seq r_ingotlaw11_DeciAdds_5 (.seq (.seq r_ingotlaw11_DeciAdds_6 (.cond (.t 39) r_ingotlaw11_DeciAdds_7 .skip)) (.seq (.seq r_ingotlaw11_DeciAdds_8 (.block 0 (.loop b_ingotlaw11_DeciAdds_12))) (.seq r_ingotlaw11_DeciAdds_13 (.seq r_ingotlaw11_DeciAdds_14 (.seq r_ingotlaw11_DeciAdds_15 (.cond (.t 67) (.seq r_ingotlaw11_DeciAdds_16 .ret) (.seq r_ingotlaw11_DeciAdds_17 .ret)))))))))))))
def i_ingotlaw11_DeciAdds : IFunc := ⟨3, [.t 6], c_ingotlaw11_DeciAdds⟩
def a_ingotlaw11_DeciAdds : Advice := ⟨[], [(16, [6]), (15, [6]), (14, [0, 1, 2, 9, 10, 11, 67]), (13, [0, 1, 2, 9, 10, 11, 12]), (12, [0, 1, 2, 9, 10]), (10, [0, 1, 2, 7, 8]), (11, [0, 1, 2, 7, 8]), (9, [0, 1, 2, 7, 8, 44]), (8, [0, 1, 2, 7, 8]), (7, [0, 1, 2, 7]), (6, [0, 1, 2, 7, 39]), (5, [0, 1, 2, 7]), (4, [6]), (3, [0, 1, 2, 30]), (2, [6]), (1, [0, 1, 2, 14]), (0, [0, 1, 2])], [], [], []⟩
/-! ingot/ingotref1.Sub -/
@[go_sem] def r_ingotref1_Sub_0_o : List IOper := [
  ⟨(some 4), none, .asg (.c (.int .i64 0))⟩,
  ⟨(some 5), none, .asg (.c (.bool false))⟩]
def r_ingotref1_Sub_0 : ICode := .region r_ingotref1_Sub_0_o [] [0, 1]
@[go_sem] theorem r_ingotref1_Sub_0_u : go X (.c r_ingotref1_Sub_0 :: K) s = goR X r_ingotref1_Sub_0_o [0, 1] K s := go_region _ _
@[go_sem] def r_ingotref1_Sub_1_o : List IOper := [
  ⟨(some 6), none, .mv (.t 1)⟩,
  ⟨(some 7), none, .bin .lss (.t 6) (.c (.int .i64 0))⟩,
  ⟨(some 8), none, .mv (.t 7)⟩,
  ⟨(some 9), some (8, true), .mv (.t 0)⟩,
  ⟨(some 10), some (8, true), .mv (.t 1)⟩,
  ⟨(some 11), some (8, true), .bin .add (.c (.int .i64 9223372036854775807)) (.t 10)⟩,
  ⟨(some 12), some (8, true), .bin .gtr (.t 9) (.t 11)⟩,
  ⟨(some 13), none, .pick (.t 8) (.t 12) (.c (.bool false))⟩,
  ⟨(some 14), none, .mv (.t 13)⟩,
  ⟨(some 15), some (14, false), .mv (.t 1)⟩,
  ⟨(some 16), some (14, false), .bin .gtr (.t 15) (.c (.int .i64 0))⟩,
  ⟨(some 17), some (14, false), .mv (.t 16)⟩,
  ⟨(some 18), some (17, true), .mv (.t 0)⟩,
  ⟨(some 19), some (17, true), .mv (.t 1)⟩,
  ⟨(some 20), some (17, true), .bin .add (.c (.int .i64 (-9223372036854775808))) (.t 19)⟩,
  ⟨(some 21), some (17, true), .bin .lss (.t 18) (.t 20)⟩,
  ⟨(some 22), some (14, false), .pick (.t 17) (.t 21) (.c (.bool false))⟩,
  ⟨(some 23), none, .pick (.t 14) (.c (.bool true)) (.t 22)⟩]
def r_ingotref1_Sub_1 : ICode := .region r_ingotref1_Sub_1_o [] [0, 1, 23]
@[go_sem] theorem r_ingotref1_Sub_1_u : go X (.c r_ingotref1_Sub_1 :: K) s = goR X r_ingotref1_Sub_1_o [0, 1, 23] K s := go_region _ _
@[go_sem] def r_ingotref1_Sub_2_o : List IOper := [
  ⟨(some 4), none, .asg (.c (.int .i64 0))⟩,
  ⟨(some 5), none, .asg (.c (.bool false))⟩]
def r_ingotref1_Sub_2 : ICode := .region r_ingotref1_Sub_2_o [] [4, 5]
@[go_sem] theorem r_ingotref1_Sub_2_u : go X (.c r_ingotref1_Sub_2 :: K) s = goR X r_ingotref1_Sub_2_o [4, 5] K s := go_region _ _
@[go_sem] def r_ingotref1_Sub_3_o : List IOper := [
  ⟨(some 24), none, .mv (.t 0)⟩,
  ⟨(some 25), none, .mv (.t 1)⟩,
  ⟨(some 26), none, .bin .sub (.t 24) (.t 25)⟩,
  ⟨(some 4), none, .asg (.t 26)⟩,
  ⟨(some 5), none, .asg (.c (.bool true))⟩]
def r_ingotref1_Sub_3 : ICode := .region r_ingotref1_Sub_3_o [] [4, 5]
@[go_sem] theorem r_ingotref1_Sub_3_u : go X (.c r_ingotref1_Sub_3 :: K) s = goR X r_ingotref1_Sub_3_o [4, 5] K s := go_region _ _
def c_ingotref1_Sub : ICode := (.seq r_ingotref1_Sub_0 (.seq r_ingotref1_Sub_1 (.cond (.t 23) (.seq r_ingotref1_Sub_2 .ret) (.seq r_ingotref1_Sub_3 .ret))))
def i_ingotref1_Sub : IFunc := ⟨2, [.t 4, .t 5], c_ingotref1_Sub⟩
def a_ingotref1_Sub : Advice := ⟨[], [(3, [4, 5]), (2, [4, 5]), (1, [0, 1, 23]), (0, [0, 1])], [], [], []⟩
/-! ingot/ingotref11.Compare -/
@[go_sem] def r_ingotref11_Compare_0_o : List IOper := [
  ⟨(some 8), none, .asg (.c (.int .i64 0))⟩]
def r_ingotref11_Compare_0 : ICode := .region r_ingotref11_Compare_0_o [] [0, 1, 2, 3]
@[go_sem] theorem r_ingotref11_Compare_0_u : go X (.c r_ingotref11_Compare_0 :: K) s = goR X r_ingotref11_Compare_0_o [0, 1, 2, 3] K s := go_region _ _
@[go_sem] def r_ingotref11_Compare_1_o : List IOper := [
  ⟨(some 9), none, .asg (.c (.int .i64 1))⟩]
def r_ingotref11_Compare_1 : ICode := .region r_ingotref11_Compare_1_o [] [0, 1, 2, 3, 9]
@[go_sem] theorem r_ingotref11_Compare_1_u : go X (.c r_ingotref11_Compare_1 :: K) s = goR X r_ingotref11_Compare_1_o [0, 1, 2, 3, 9] K s := go_region _ _
@[go_sem] def r_ingotref11_Compare_2_o : List IOper := [
  ⟨(some 14), none, .mv (.t 0)⟩,
  ⟨(some 15), none, .bin .lss (.t 14) (.c (.int .i64 0))⟩,
  ⟨(some 16), none, .mv (.t 15)⟩,
  ⟨(some 17), some (16, true), .mv (.t 2)⟩,
  ⟨(some 18), some (16, true), .bin .geq (.t 17) (.c (.int .i64 0))⟩,
  ⟨(some 19), none, .pick (.t 16) (.t 18) (.c (.bool false))⟩]
def r_ingotref11_Compare_2 : ICode := .region r_ingotref11_Compare_2_o [] [0, 1, 2, 3, 9, 19]
@[go_sem] theorem r_ingotref11_Compare_2_u : go X (.c r_ingotref11_Compare_2 :: K) s = goR X r_ingotref11_Compare_2_o [0, 1, 2, 3, 9, 19] K s := go_region _ _
@[go_sem] def r_ingotref11_Compare_3_o : List IOper := [
  ⟨(some 8), none, .asg (.c (.int .i64 (-1)))⟩]
def r_ingotref11_Compare_3 : ICode := .region r_ingotref11_Compare_3_o [] [8]
@[go_sem] theorem r_ingotref11_Compare_3_u : go X (.c r_ingotref11_Compare_3 :: K) s = goR X r_ingotref11_Compare_3_o [8] K s := go_region _ _
@[go_sem] def r_ingotref11_Compare_4_o : List IOper := [
  ⟨(some 20), none, .mv (.t 0)⟩,
  ⟨(some 21), none, .bin .geq (.t 20) (.c (.int .i64 0))⟩,
  ⟨(some 22), none, .mv (.t 21)⟩,
  ⟨(some 23), some (22, true), .mv (.t 2)⟩,
  ⟨(some 24), some (22, true), .bin .lss (.t 23) (.c (.int .i64 0))⟩,
  ⟨(some 25), none, .pick (.t 22) (.t 24) (.c (.bool false))⟩]
def r_ingotref11_Compare_4 : ICode := .region r_ingotref11_Compare_4_o [] [0, 1, 2, 3, 9, 25]
@[go_sem] theorem r_ingotref11_Compare_4_u : go X (.c r_ingotref11_Compare_4 :: K) s = goR X r_ingotref11_Compare_4_o [0, 1, 2, 3, 9, 25] K s := go_region _ _
@[go_sem] def r_ingotref11_Compare_5_o : List IOper := [
  ⟨(some 8), none, .asg (.c (.int .i64 1))⟩]
def r_ingotref11_Compare_5 : ICode := .region r_ingotref11_Compare_5_o [] [8]
@[go_sem] theorem r_ingotref11_Compare_5_u : go X (.c r_ingotref11_Compare_5 :: K) s = goR X r_ingotref11_Compare_5_o [8] K s := go_region _ _
@[go_sem] def r_ingotref11_Compare_6_o : List IOper := [
  ⟨(some 26), none, .mv (.t 0)⟩,
  ⟨(some 27), none, .bin .lss (.t 26) (.c (.int .i64 0))⟩]
def r_ingotref11_Compare_6 : ICode := .region r_ingotref11_Compare_6_o [] [0, 1, 2, 3, 9, 27]
@[go_sem] theorem r_ingotref11_Compare_6_u : go X (.c r_ingotref11_Compare_6 :: K) s = goR X r_ingotref11_Compare_6_o [0, 1, 2, 3, 9, 27] K s := go_region _ _
@[go_sem] def r_ingotref11_Compare_7_o : List IOper := [
  ⟨(some 9), none, .asg (.c (.int .i64 (-1)))⟩]
def r_ingotref11_Compare_7 : ICode := .region r_ingotref11_Compare_7_o [] [0, 1, 2, 3, 9]
@[go_sem] theorem r_ingotref11_Compare_7_u : go X (.c r_ingotref11_Compare_7 :: K) s = goR X r_ingotref11_Compare_7_o [0, 1, 2, 3, 9] K s := go_region _ _
@[go_sem] def r_ingotref11_Compare_8_o : List IOper := [
  ⟨(some 28), none, .mv (.t 0)⟩,
  ⟨(some 29), none, .call false n_ingotref11_size [(.t 28)]⟩,
  ⟨(some 30), none, .call false n_ingotref11_digits [(.t 29)]⟩,
  ⟨(some 10), none, .asg (.t 30)⟩]
def r_ingotref11_Compare_8 : ICode := .region r_ingotref11_Compare_8_o [] [1, 2, 3, 9, 10]
@[go_sem] theorem r_ingotref11_Compare_8_u : go X (.c r_ingotref11_Compare_8 :: K) s = goR X r_ingotref11_Compare_8_o [1, 2, 3, 9, 10] K s := go_region _ _
@[go_sem] def r_ingotref11_Compare_9_o : List IOper := [
  ⟨(some 31), none, .mv (.t 2)⟩,
  ⟨(some 32), none, .call false n_ingotref11_size [(.t 31)]⟩,
  ⟨(some 33), none, .call false n_ingotref11_digits [(.t 32)]⟩,
  ⟨(some 11), none, .asg (.t 33)⟩]
def r_ingotref11_Compare_9 : ICode := .region r_ingotref11_Compare_9_o [] [1, 3, 9, 10, 11]
@[go_sem] theorem r_ingotref11_Compare_9_u : go X (.c r_ingotref11_Compare_9 :: K) s = goR X r_ingotref11_Compare_9_o [1, 3, 9, 10, 11] K s := go_region _ _
@[go_sem] def r_ingotref11_Compare_10_o : List IOper := [
  ⟨(some 34), none, .mv (.t 1)⟩,
  ⟨(some 12), none, .asg (.t 34)⟩]
def r_ingotref11_Compare_10 : ICode := .region r_ingotref11_Compare_10_o [] [3, 9, 10, 11, 12]
@[go_sem] theorem r_ingotref11_Compare_10_u : go X (.c r_ingotref11_Compare_10 :: K) s = goR X r_ingotref11_Compare_10_o [3, 9, 10, 11, 12] K s := go_region _ _
@[go_sem] def r_ingotref11_Compare_11_o : List IOper := [
  ⟨(some 35), none, .mv (.t 12)⟩,
  ⟨(some 36), none, .bin .lss (.t 35) (.c (.int .i64 18))⟩]
def r_ingotref11_Compare_11 : ICode := .region r_ingotref11_Compare_11_o [] [3, 9, 10, 11, 12, 36]
@[go_sem] theorem r_ingotref11_Compare_11_u : go X (.c r_ingotref11_Compare_11 :: K) s = goR X r_ingotref11_Compare_11_o [3, 9, 10, 11, 12, 36] K s := go_region _ _
@[go_sem] def r_ingotref11_Compare_12_o : List IOper := [
  ⟨(some 39), none, .mv (.t 10)⟩,
  ⟨(some 40), none, .bin .add (.t 39) (.c (.str [48]))⟩,
  ⟨(some 10), none, .asg (.t 40)⟩]
def r_ingotref11_Compare_12 : ICode := .region r_ingotref11_Compare_12_o [] [3, 9, 10, 11, 12]
@[go_sem] theorem r_ingotref11_Compare_12_u : go X (.c r_ingotref11_Compare_12 :: K) s = goR X r_ingotref11_Compare_12_o [3, 9, 10, 11, 12] K s := go_region _ _
@[go_sem] def r_ingotref11_Compare_13_o : List IOper := [
  ⟨(some 37), none, .mv (.t 12)⟩,
  ⟨(some 38), none, .bin .add (.t 37) (.c (.int .i64 1))⟩,
  ⟨(some 12), none, .asg (.t 38)⟩]
def r_ingotref11_Compare_13 : ICode := .region r_ingotref11_Compare_13_o [] [3, 9, 10, 11, 12]
@[go_sem] theorem r_ingotref11_Compare_13_u : go X (.c r_ingotref11_Compare_13 :: K) s = goR X r_ingotref11_Compare_13_o [3, 9, 10, 11, 12] K s := go_region _ _
def b_ingotref11_Compare_14 : ICode := (.seq (.seq r_ingotref11_Compare_11 (.cond (.t 36) .skip (.exit 0))) (.seq (.block 1 r_ingotref11_Compare_12) r_ingotref11_Compare_13))
@[go_sem] theorem b_ingotref11_Compare_14_u : go X (.c b_ingotref11_Compare_14 :: K) s = go X (.c (.seq (.seq r_ingotref11_Compare_11 (.cond (.t 36) .skip (.exit 0))) (.seq (.block 1 r_ingotref11_Compare_12) r_ingotref11_Compare_13)) :: K) s := rfl
@[go_sem] def r_ingotref11_Compare_15_o : List IOper := [
  ⟨(some 41), none, .mv (.t 3)⟩,
  ⟨(some 13), none, .asg (.t 41)⟩]
def r_ingotref11_Compare_15 : ICode := .region r_ingotref11_Compare_15_o [] [9, 10, 11, 13]
@[go_sem] theorem r_ingotref11_Compare_15_u : go X (.c r_ingotref11_Compare_15 :: K) s = goR X r_ingotref11_Compare_15_o [9, 10, 11, 13] K s := go_region _ _
@[go_sem] def r_ingotref11_Compare_16_o : List IOper := [
  ⟨(some 42), none, .mv (.t 13)⟩,
  ⟨(some 43), none, .bin .lss (.t 42) (.c (.int .i64 18))⟩]
def r_ingotref11_Compare_16 : ICode := .region r_ingotref11_Compare_16_o [] [9, 10, 11, 13, 43]
@[go_sem] theorem r_ingotref11_Compare_16_u : go X (.c r_ingotref11_Compare_16 :: K) s = goR X r_ingotref11_Compare_16_o [9, 10, 11, 13, 43] K s := go_region _ _
@[go_sem] def r_ingotref11_Compare_17_o : List IOper := [
  ⟨(some 46), none, .mv (.t 11)⟩,
  ⟨(some 47), none, .bin .add (.t 46) (.c (.str [48]))⟩,
  ⟨(some 11), none, .asg (.t 47)⟩]
def r_ingotref11_Compare_17 : ICode := .region r_ingotref11_Compare_17_o [] [9, 10, 11, 13]
@[go_sem] theorem r_ingotref11_Compare_17_u : go X (.c r_ingotref11_Compare_17 :: K) s = goR X r_ingotref11_Compare_17_o [9, 10, 11, 13] K s := go_region _ _
@[go_sem] def r_ingotref11_Compare_18_o : List IOper := [
  ⟨(some 44), none, .mv (.t 13)⟩,
  ⟨(some 45), none, .bin .add (.t 44) (.c (.int .i64 1))⟩,
  ⟨(some 13), none, .asg (.t 45)⟩]
def r_ingotref11_Compare_18 : ICode := .region r_ingotref11_Compare_18_o [] [9, 10, 11, 13]
@[go_sem] theorem r_ingotref11_Compare_18_u : go X (.c r_ingotref11_Compare_18 :: K) s = goR X r_ingotref11_Compare_18_o [9, 10, 11, 13] K s := go_region _ _
def b_ingotref11_Compare_19 : ICode := (.seq (.seq r_ingotref11_Compare_16 (.cond (.t 43) .skip (.exit 2))) (.seq (.block 3 r_ingotref11_Compare_17) r_ingotref11_Compare_18))
@[go_sem] theorem b_ingotref11_Compare_19_u : go X (.c b_ingotref11_Compare_19 :: K) s = go X (.c (.seq (.seq r_ingotref11_Compare_16 (.cond (.t 43) .skip (.exit 2))) (.seq (.block 3 r_ingotref11_Compare_17) r_ingotref11_Compare_18)) :: K) s := rfl
@[go_sem] def r_ingotref11_Compare_20_o : List IOper := [
  ⟨(some 48), none, .mv (.t 10)⟩,
  ⟨(some 49), none, .len true (.t 48)⟩,
  ⟨(some 50), none, .mv (.t 11)⟩,
  ⟨(some 51), none, .len true (.t 50)⟩,
  ⟨(some 52), none, .bin .lss (.t 49) (.t 51)⟩]
def r_ingotref11_Compare_20 : ICode := .region r_ingotref11_Compare_20_o [] [9, 10, 11, 52]
@[go_sem] theorem r_ingotref11_Compare_20_u : go X (.c r_ingotref11_Compare_20 :: K) s = goR X r_ingotref11_Compare_20_o [9, 10, 11, 52] K s := go_region _ _
@[go_sem] def r_ingotref11_Compare_21_o : List IOper := [
  ⟨(some 53), none, .mv (.t 10)⟩,
  ⟨(some 54), none, .bin .add (.c (.str [48])) (.t 53)⟩,
  ⟨(some 10), none, .asg (.t 54)⟩]
def r_ingotref11_Compare_21 : ICode := .region r_ingotref11_Compare_21_o [] [9, 10, 11]
@[go_sem] theorem r_ingotref11_Compare_21_u : go X (.c r_ingotref11_Compare_21 :: K) s = goR X r_ingotref11_Compare_21_o [9, 10, 11] K s := go_region _ _
def b_ingotref11_Compare_22 : ICode := (.seq (.seq r_ingotref11_Compare_20 (.cond (.t 52) .skip (.exit 4))) (.block 5 r_ingotref11_Compare_21))
@[go_sem] theorem b_ingotref11_Compare_22_u : go X (.c b_ingotref11_Compare_22 :: K) s = go X (.c (.seq (.seq r_ingotref11_Compare_20 (.cond (.t 52) .skip (.exit 4))) (.block 5 r_ingotref11_Compare_21)) :: K) s := rfl
@[go_sem] def r_ingotref11_Compare_23_o : List IOper := [
  ⟨(some 55), none, .mv (.t 11)⟩,
  ⟨(some 56), none, .len true (.t 55)⟩,
  ⟨(some 57), none, .mv (.t 10)⟩,
  ⟨(some 58), none, .len true (.t 57)⟩,
  ⟨(some 59), none, .bin .lss (.t 56) (.t 58)⟩]
def r_ingotref11_Compare_23 : ICode := .region r_ingotref11_Compare_23_o [] [9, 10, 11, 59]
@[go_sem] theorem r_ingotref11_Compare_23_u : go X (.c r_ingotref11_Compare_23 :: K) s = goR X r_ingotref11_Compare_23_o [9, 10, 11, 59] K s := go_region _ _
@[go_sem] def r_ingotref11_Compare_24_o : List IOper := [
  ⟨(some 60), none, .mv (.t 11)⟩,
  ⟨(some 61), none, .bin .add (.c (.str [48])) (.t 60)⟩,
  ⟨(some 11), none, .asg (.t 61)⟩]
def r_ingotref11_Compare_24 : ICode := .region r_ingotref11_Compare_24_o [] [9, 10, 11]
@[go_sem] theorem r_ingotref11_Compare_24_u : go X (.c r_ingotref11_Compare_24 :: K) s = goR X r_ingotref11_Compare_24_o [9, 10, 11] K s := go_region _ _
def b_ingotref11_Compare_25 : ICode := (.seq (.seq r_ingotref11_Compare_23 (.cond (.t 59) .skip (.exit 6))) (.block 7 r_ingotref11_Compare_24))
@[go_sem] theorem b_ingotref11_Compare_25_u : go X (.c b_ingotref11_Compare_25 :: K) s = go X (.c (.seq (.seq r_ingotref11_Compare_23 (.cond (.t 59) .skip (.exit 6))) (.block 7 r_ingotref11_Compare_24)) :: K) s := rfl
@[go_sem] def r_ingotref11_Compare_26_o : List IOper := [
  ⟨(some 63), none, .mv (.t 10)⟩,
  ⟨(some 64), none, .mv (.t 11)⟩,
  ⟨(some 65), none, .bin .lss (.t 63) (.t 64)⟩,
  ⟨(some 62), none, .asg (.t 65)⟩]
def r_ingotref11_Compare_26 : ICode := .region r_ingotref11_Compare_26_o [] [9, 10, 11, 62]
@[go_sem] theorem r_ingotref11_Compare_26_u : go X (.c r_ingotref11_Compare_26 :: K) s = goR X r_ingotref11_Compare_26_o [9, 10, 11, 62] K s := go_region _ _
@[go_sem] def r_ingotref11_Compare_27_o : List IOper := [
  ⟨(some 66), none, .mv (.t 9)⟩,
  ⟨(some 67), none, .bin .sub (.c (.int .i64 0)) (.t 66)⟩,
  ⟨(some 8), none, .asg (.t 67)⟩]
def r_ingotref11_Compare_27 : ICode := .region r_ingotref11_Compare_27_o [] [8]
@[go_sem] theorem r_ingotref11_Compare_27_u : go X (.c r_ingotref11_Compare_27 :: K) s = goR X r_ingotref11_Compare_27_o [8] K s := go_region _ _
@[go_sem] def r_ingotref11_Compare_28_o : List IOper := [
  ⟨(some 69), none, .mv (.t 10)⟩,
  ⟨(some 70), none, .mv (.t 11)⟩,
  ⟨(some 71), none, .bin .gtr (.t 69) (.t 70)⟩,
  ⟨(some 68), none, .asg (.t 71)⟩]
def r_ingotref11_Compare_28 : ICode := .region r_ingotref11_Compare_28_o [] [9, 68]
@[go_sem] theorem r_ingotref11_Compare_28_u : go X (.c r_ingotref11_Compare_28 :: K) s = goR X r_ingotref11_Compare_28_o [9, 68] K s := go_region _ _
@[go_sem] def r_ingotref11_Compare_29_o : List IOper := [
  ⟨(some 72), none, .mv (.t 9)⟩,
  ⟨(some 8), none, .asg (.t 72)⟩]
def r_ingotref11_Compare_29 : ICode := .region r_ingotref11_Compare_29_o [] [8]
@[go_sem] theorem r_ingotref11_Compare_29_u : go X (.c r_ingotref11_Compare_29 :: K) s = goR X r_ingotref11_Compare_29_o [8] K s := go_region _ _
@[go_sem] def r_ingotref11_Compare_30_o : List IOper := [
  ⟨(some 8), none, .asg (.c (.int .i64 0))⟩]
def r_ingotref11_Compare_30 : ICode := .region r_ingotref11_Compare_30_o [] [8]
@[go_sem] theorem r_ingotref11_Compare_30_u : go X (.c r_ingotref11_Compare_30 :: K) s = goR X r_ingotref11_Compare_30_o [8] K s := go_region _ _
def c_ingotref11_Compare : ICode := (.seq r_ingotref11_Compare_0 (.seq r_ingotref11_Compare_1 (.seq r_ingotref11_Compare_2 (.cond (.t 19) (.seq r_ingotref11_Compare_3 .ret) (.seq r_ingotref11_Compare_4 (.cond (.t 25) (.seq r_ingotref11_Compare_5 .ret) (.seq (.seq r_ingotref11_Compare_6 (.cond (.t 27) r_ingotref11_Compare_7 .skip)) (.seq r_ingotref11_Compare_8 (.seq r_ingotref11_Compare_9 (.seq (.seq r_ingotref11_Compare_10 (.block 0 (.loop b_ingotref11_Compare_14))) (.seq (.seq r_ingotref11_Compare_15 (.block 2 (.loop b_ingotref11_Compare_19))) (.seq (.block 4 (.loop b_ingotref11_Compare_22)) (.seq (.block 6 (.loop b_ingotref11_Compare_25)) (.seq (.block 8 (.seq r_ingotref11_Compare_26 (.cond (.t 62) (.seq r_ingotref11_Compare_27 .ret) (.seq r_ingotref11_Compare_28 (.cond (.t 68) (.seq r_ingotref11_Compare_29 .ret) .skip))))) (.seq r_ingotref11_Compare_30 .ret)))))))))))))))
def i_ingotref11_Compare : IFunc := ⟨4, [.t 8], c_ingotref11_Compare⟩
def a_ingotref11_Compare : Advice := ⟨[], [(26, [8]), (23, [8]), (25, [8]), (24, [9, 68]), (22, [9, 10, 11, 62]), (21, [9, 10, 11]), (20, [9, 10, 11, 59]), (19, [9, 10, 11]), (18, [9, 10, 11, 52]), (16, [9, 10, 11, 13]), (17, [9, 10, 11, 13]), (15, [9, 10, 11, 13, 43]), (14, [9, 10, 11, 13]), (12, [3, 9, 10, 11, 12]), (13, [3, 9, 10, 11, 12]), (11, [3, 9, 10, 11, 12, 36]), (10, [3, 9, 10, 11, 12]), (9, [1, 3, 9, 10, 11]), (8, [1, 2, 3, 9, 10]), (7, [0, 1, 2, 3, 9]), (6, [0, 1, 2, 3, 9, 27]), (5, [8]), (4, [0, 1, 2, 3, 9, 25]), (3, [8]), (2, [0, 1, 2, 3, 9, 19]), (1, [0, 1, 2, 3, 9]), (0, [0, 1, 2, 3])], [], [], []⟩
/-! ingot/ingotlaw11.DeciOrder -/
@[go_sem] def r_ingotlaw11_DeciOrder_0_o : List IOper := [
  ⟨(some 8), none, .asg (.c (.bool false))⟩]
def r_ingotlaw11_DeciOrder_0 : ICode := .region r_ingotlaw11_DeciOrder_0_o [] [0, 1, 2, 3]
@[go_sem] theorem r_ingotlaw11_DeciOrder_0_u : go X (.c r_ingotlaw11_DeciOrder_0 :: K) s = goR X r_ingotlaw11_DeciOrder_0_o [0, 1, 2, 3] K s := go_region _ _
@[go_sem] def r_ingotlaw11_DeciOrder_1_o : List IOper := [
  ⟨(some 12), none, .call false n_ingotlaw11_known []⟩,
  ⟨(some 13), none, .un .not (.t 12)⟩]
def r_ingotlaw11_DeciOrder_1 : ICode := .region r_ingotlaw11_DeciOrder_1_o [] [0, 1, 2, 3, 13]
@[go_sem] theorem r_ingotlaw11_DeciOrder_1_u : go X (.c r_ingotlaw11_DeciOrder_1 :: K) s = goR X r_ingotlaw11_DeciOrder_1_o [0, 1, 2, 3, 13] K s := go_region _ _
@[go_sem] def r_ingotlaw11_DeciOrder_2_o : List IOper := [
  ⟨(some 8), none, .asg (.c (.bool false))⟩]
def r_ingotlaw11_DeciOrder_2 : ICode := .region r_ingotlaw11_DeciOrder_2_o [] [8]
@[go_sem] theorem r_ingotlaw11_DeciOrder_2_u : go X (.c r_ingotlaw11_DeciOrder_2 :: K) s = goR X r_ingotlaw11_DeciOrder_2_o [8] K s := go_region _ _
@[go_sem] def r_ingotlaw11_DeciOrder_3_o : List IOper := [
  ⟨(some 14), none, .mv (.t 1)⟩,
  ⟨(some 15), none, .call false n_ingotlaw11_scale [(.t 14)]⟩,
  ⟨(some 16), none, .un .not (.t 15)⟩,
  ⟨(some 17), none, .mv (.t 16)⟩,
  ⟨(some 18), some (17, false), .mv (.t 3)⟩,
  ⟨(some 19), some (17, false), .call false n_ingotlaw11_scale [(.t 18)]⟩,
  ⟨(some 20), some (17, false), .un .not (.t 19)⟩,
  ⟨(some 21), none, .pick (.t 17) (.c (.bool true)) (.t 20)⟩]
def r_ingotlaw11_DeciOrder_3 : ICode := .region r_ingotlaw11_DeciOrder_3_o [] [0, 1, 2, 3, 21]
@[go_sem] theorem r_ingotlaw11_DeciOrder_3_u : go X (.c r_ingotlaw11_DeciOrder_3 :: K) s = goR X r_ingotlaw11_DeciOrder_3_o [0, 1, 2, 3, 21] K s := go_region _ _
@[go_sem] def r_ingotlaw11_DeciOrder_4_o : List IOper := [
  ⟨(some 8), none, .asg (.c (.bool true))⟩]
def r_ingotlaw11_DeciOrder_4 : ICode := .region r_ingotlaw11_DeciOrder_4_o [] [8]
@[go_sem] theorem r_ingotlaw11_DeciOrder_4_u : go X (.c r_ingotlaw11_DeciOrder_4 :: K) s = goR X r_ingotlaw11_DeciOrder_4_o [8] K s := go_region _ _
@[go_sem] def r_ingotlaw11_DeciOrder_5_o : List IOper := [
  ⟨(some 22), none, .mv (.t 0)⟩,
  ⟨(some 23), none, .mv (.t 1)⟩,
  ⟨(some 24), none, .mv (.t 2)⟩,
  ⟨(some 25), none, .mv (.t 3)⟩,
  ⟨(some 26), none, .call false n_deci_Compare [(.t 22), (.t 23), (.t 24), (.t 25)]⟩,
  ⟨(some 9), none, .asg (.t 26)⟩]
def r_ingotlaw11_DeciOrder_5 : ICode := .region r_ingotlaw11_DeciOrder_5_o [] [0, 1, 2, 3, 9]
@[go_sem] theorem r_ingotlaw11_DeciOrder_5_u : go X (.c r_ingotlaw11_DeciOrder_5 :: K) s = goR X r_ingotlaw11_DeciOrder_5_o [0, 1, 2, 3, 9] K s := go_region _ _
@[go_sem] def r_ingotlaw11_DeciOrder_6_o : List IOper := [
  ⟨(some 27), none, .mv (.t 9)⟩,
  ⟨(some 28), none, .mv (.t 0)⟩,
  ⟨(some 29), none, .mv (.t 1)⟩,
  ⟨(some 30), none, .mv (.t 2)⟩,
  ⟨(some 31), none, .mv (.t 3)⟩,
  ⟨(some 32), none, .call false n_ingotref11_Compare [(.t 28), (.t 29), (.t 30), (.t 31)]⟩,
  ⟨(some 33), none, .bin .neq (.t 27) (.t 32)⟩,
  ⟨(some 34), none, .mv (.t 33)⟩,
  ⟨(some 35), some (34, false), .mv (.t 2)⟩,
  ⟨(some 36), some (34, false), .mv (.t 3)⟩,
  ⟨(some 37), some (34, false), .mv (.t 0)⟩,
  ⟨(some 38), some (34, false), .mv (.t 1)⟩,
  ⟨(some 39), some (34, false), .call false n_deci_Compare [(.t 35), (.t 36), (.t 37), (.t 38)]⟩,
  ⟨(some 40), some (34, false), .mv (.t 9)⟩,
  ⟨(some 41), some (34, false), .bin .sub (.c (.int .i64 0)) (.t 40)⟩,
  ⟨(some 42), some (34, false), .bin .neq (.t 39) (.t 41)⟩,
  ⟨(some 43), none, .pick (.t 34) (.c (.bool true)) (.t 42)⟩]
def r_ingotlaw11_DeciOrder_6 : ICode := .region r_ingotlaw11_DeciOrder_6_o [] [0, 1, 2, 3, 9, 43]
@[go_sem] theorem r_ingotlaw11_DeciOrder_6_u : go X (.c r_ingotlaw11_DeciOrder_6 :: K) s = goR X r_ingotlaw11_DeciOrder_6_o [0, 1, 2, 3, 9, 43] K s := go_region _ _
@[go_sem] def r_ingotlaw11_DeciOrder_7_o : List IOper := [
  ⟨(some 8), none, .asg (.c (.bool false))⟩]
def r_ingotlaw11_DeciOrder_7 : ICode := .region r_ingotlaw11_DeciOrder_7_o [] [8]
@[go_sem] theorem r_ingotlaw11_DeciOrder_7_u : go X (.c r_ingotlaw11_DeciOrder_7 :: K) s = goR X r_ingotlaw11_DeciOrder_7_o [8] K s := go_region _ _
@[go_sem] def r_ingotlaw11_DeciOrder_8_o : List IOper := [
  ⟨(some 44), none, .mv (.t 1)⟩,
  ⟨(some 45), none, .mv (.t 3)⟩,
  ⟨(some 46), none, .bin .neq (.t 44) (.t 45)⟩]
def r_ingotlaw11_DeciOrder_8 : ICode := .region r_ingotlaw11_DeciOrder_8_o [] [0, 2, 9, 46]
@[go_sem] theorem r_ingotlaw11_DeciOrder_8_u : go X (.c r_ingotlaw11_DeciOrder_8 :: K) s = goR X r_ingotlaw11_DeciOrder_8_o [0, 2, 9, 46] K s := go_region _ _
@[go_sem] def r_ingotlaw11_DeciOrder_9_o : List IOper := [
  ⟨(some 8), none, .asg (.c (.bool true))⟩]
def r_ingotlaw11_DeciOrder_9 : ICode := .region r_ingotlaw11_DeciOrder_9_o [] [8]
@[go_sem] theorem r_ingotlaw11_DeciOrder_9_u : go X (.c r_ingotlaw11_DeciOrder_9 :: K) s = goR X r_ingotlaw11_DeciOrder_9_o [8] K s := go_region _ _
@[go_sem] def r_ingotlaw11_DeciOrder_10_o : List IOper := [
  ⟨(some 48), none, .mv (.t 0)⟩,
  ⟨(some 49), none, .mv (.t 2)⟩,
  ⟨(some 50), none, .call false n_ingotref1_Sub [(.t 48), (.t 49)]⟩,
  ⟨(some 47), none, .mv (.t 50)⟩,
  ⟨(some 51), none, .ext (.t 47) 0⟩,
  ⟨(some 52), none, .ext (.t 47) 1⟩,
  ⟨(some 10), none, .asg (.t 51)⟩,
  ⟨(some 11), none, .asg (.t 52)⟩]
def r_ingotlaw11_DeciOrder_10 : ICode := .region r_ingotlaw11_DeciOrder_10_o [] [9, 10, 11]
@[go_sem] theorem r_ingotlaw11_DeciOrder_10_u : go X (.c r_ingotlaw11_DeciOrder_10 :: K) s = goR X r_ingotlaw11_DeciOrder_10_o [9, 10, 11] K s := go_region _ _
@[go_sem] def r_ingotlaw11_DeciOrder_11_o : List IOper := [
  ⟨(some 53), none, .mv (.t 11)⟩,
  ⟨(some 54), none, .un .not (.t 53)⟩,
  ⟨(some 55), none, .mv (.t 54)⟩,
  ⟨(some 56), some (55, false), .mv (.t 9)⟩,
  ⟨(some 57), some (55, false), .bin .lss (.t 56) (.c (.int .i64 0))⟩,
  ⟨(some 58), some (55, false), .mv (.t 10)⟩,
  ⟨(some 59), some (55, false), .bin .lss (.t 58) (.c (.int .i64 0))⟩,
  ⟨(some 60), some (55, false), .eqn false .bool (.t 57) (.t 59)⟩,
  ⟨(some 61), some (55, false), .mv (.t 60)⟩,
  ⟨(some 62), some (61, true), .mv (.t 9)⟩,
  ⟨(some 63), some (61, true), .bin .gtr (.t 62) (.c (.int .i64 0))⟩,
  ⟨(some 64), some (61, true), .mv (.t 10)⟩,
  ⟨(some 65), some (61, true), .bin .gtr (.t 64) (.c (.int .i64 0))⟩,
  ⟨(some 66), some (61, true), .eqn false .bool (.t 63) (.t 65)⟩,
  ⟨(some 67), some (55, false), .pick (.t 61) (.t 66) (.c (.bool false))⟩,
  ⟨(some 68), none, .pick (.t 55) (.c (.bool true)) (.t 67)⟩,
  ⟨(some 8), none, .asg (.t 68)⟩]
def r_ingotlaw11_DeciOrder_11 : ICode := .region r_ingotlaw11_DeciOrder_11_o [] [8]
@[go_sem] theorem r_ingotlaw11_DeciOrder_11_u : go X (.c r_ingotlaw11_DeciOrder_11 :: K) s = goR X r_ingotlaw11_DeciOrder_11_o [8] K s := go_region _ _
def c_ingotlaw11_DeciOrder : ICode := (.seq r_ingotlaw11_DeciOrder_0 (.seq r_ingotlaw11_DeciOrder_1 (.cond (.t 13) (.seq r_ingotlaw11_DeciOrder_2 .ret) (.seq r_ingotlaw11_DeciOrder_3 (.cond (.t 21) (.seq r_ingotlaw11_DeciOrder_4 .ret) (.seq r_ingotlaw11_DeciOrder_5 (.seq r_ingotlaw11_DeciOrder_6 (.cond (.t 43) (.seq r_ingotlaw11_DeciOrder_7 .ret) (.seq r_ingotlaw11_DeciOrder_8 (.cond (.t 46) (.seq r_ingotlaw11_DeciOrder_9 .ret) (.seq r_ingotlaw11_DeciOrder_10 (.seq r_ingotlaw11_DeciOrder_11 .ret))))))))))))
def i_ingotlaw11_DeciOrder : IFunc := ⟨4, [.t 8], c_ingotlaw11_DeciOrder⟩
def a_ingotlaw11_DeciOrder : Advice := ⟨[], [(11, [8]), (10, [9, 10, 11]), (9, [8]), (8, [0, 2, 9, 46]), (7, [8]), (6, [0, 1, 2, 3, 9, 43]), (5, [0, 1, 2, 3, 9]), (4, [8]), (3, [0, 1, 2, 3, 21]), (2, [8]), (1, [0, 1, 2, 3, 13]), (0, [0, 1, 2, 3])], [], [], []⟩
/-! ingot/ingotref11.Rescale -/
@[go_sem] def r_ingotref11_Rescale_0_o : List IOper := [
  ⟨(some 6), none, .asg (.c (.int .i64 0))⟩,
  ⟨(some 7), none, .asg (.c (.bool false))⟩]
def r_ingotref11_Rescale_0 : ICode := .region r_ingotref11_Rescale_0_o [] [0, 1, 2]
@[go_sem] theorem r_ingotref11_Rescale_0_u : go X (.c r_ingotref11_Rescale_0 :: K) s = goR X r_ingotref11_Rescale_0_o [0, 1, 2] K s := go_region _ _
@[go_sem] def r_ingotref11_Rescale_1_o : List IOper := [
  ⟨(some 10), none, .mv (.t 1)⟩,
  ⟨(some 11), none, .mv (.t 2)⟩,
  ⟨(some 12), none, .bin .lss (.t 10) (.t 11)⟩]
def r_ingotref11_Rescale_1 : ICode := .region r_ingotref11_Rescale_1_o [] [0, 1, 2, 12]
@[go_sem] theorem r_ingotref11_Rescale_1_u : go X (.c r_ingotref11_Rescale_1 :: K) s = goR X r_ingotref11_Rescale_1_o [0, 1, 2, 12] K s := go_region _ _
@[go_sem] def r_ingotref11_Rescale_2_o : List IOper := [
  ⟨(some 14), none, .mv (.t 0)⟩,
  ⟨(some 15), none, .call false n_ingotref1_Mul [(.t 14), (.c (.int .i64 10))]⟩,
  ⟨(some 13), none, .mv (.t 15)⟩,
  ⟨(some 16), none, .ext (.t 13) 0⟩,
  ⟨(some 17), none, .ext (.t 13) 1⟩,
  ⟨(some 8), none, .asg (.t 16)⟩,
  ⟨(some 9), none, .asg (.t 17)⟩]
def r_ingotref11_Rescale_2 : ICode := .region r_ingotref11_Rescale_2_o [] [1, 2, 8, 9]
@[go_sem] theorem r_ingotref11_Rescale_2_u : go X (.c r_ingotref11_Rescale_2 :: K) s = goR X r_ingotref11_Rescale_2_o [1, 2, 8, 9] K s := go_region _ _
@[go_sem] def r_ingotref11_Rescale_3_o : List IOper := [
  ⟨(some 18), none, .mv (.t 9)⟩,
  ⟨(some 19), none, .un .not (.t 18)⟩]
def r_ingotref11_Rescale_3 : ICode := .region r_ingotref11_Rescale_3_o [] [1, 2, 8, 19]
@[go_sem] theorem r_ingotref11_Rescale_3_u : go X (.c r_ingotref11_Rescale_3 :: K) s = goR X r_ingotref11_Rescale_3_o [1, 2, 8, 19] K s := go_region _ _
@[go_sem] def r_ingotref11_Rescale_4_o : List IOper := [
  ⟨(some 6), none, .asg (.c (.int .i64 0))⟩,
  ⟨(some 7), none, .asg (.c (.bool false))⟩]
def r_ingotref11_Rescale_4 : ICode := .region r_ingotref11_Rescale_4_o [] [6, 7]
@[go_sem] theorem r_ingotref11_Rescale_4_u : go X (.c r_ingotref11_Rescale_4 :: K) s = goR X r_ingotref11_Rescale_4_o [6, 7] K s := go_region _ _
@[go_sem] def r_ingotref11_Rescale_5_o : List IOper := [
  ⟨(some 20), none, .mv (.t 8)⟩,
  ⟨(some 0), none, .asg (.t 20)⟩]
def r_ingotref11_Rescale_5 : ICode := .region r_ingotref11_Rescale_5_o [] [0, 1, 2]
@[go_sem] theorem r_ingotref11_Rescale_5_u : go X (.c r_ingotref11_Rescale_5 :: K) s = goR X r_ingotref11_Rescale_5_o [0, 1, 2] K s := go_region _ _
@[go_sem] def r_ingotref11_Rescale_6_o : List IOper := [
  ⟨(some 21), none, .mv (.t 1)⟩,
  ⟨(some 22), none, .bin .add (.t 21) (.c (.int .i64 1))⟩,
  ⟨(some 1), none, .asg (.t 22)⟩]
def r_ingotref11_Rescale_6 : ICode := .region r_ingotref11_Rescale_6_o [] [0, 1, 2]
@[go_sem] theorem r_ingotref11_Rescale_6_u : go X (.c r_ingotref11_Rescale_6 :: K) s = goR X r_ingotref11_Rescale_6_o [0, 1, 2] K s := go_region _ _
def b_ingotref11_Rescale_7 : ICode := (.seq (.seq r_ingotref11_Rescale_1 (.cond (.t 12) .skip (.exit 0))) (.block 1 (.seq r_ingotref11_Rescale_2 (.seq (.seq r_ingotref11_Rescale_3 (.cond (.t 19) (.seq r_ingotref11_Rescale_4 .ret) .skip)) (.seq r_ingotref11_Rescale_5 r_ingotref11_Rescale_6)))))
@[go_sem] theorem b_ingotref11_Rescale_7_u : go X (.c b_ingotref11_Rescale_7 :: K) s = go X (.c (.seq (.seq r_ingotref11_Rescale_1 (.cond (.t 12) .skip (.exit 0))) (.block 1 (.seq r_ingotref11_Rescale_2 (.seq (.seq r_ingotref11_Rescale_3 (.cond (.t 19) (.seq r_ingotref11_Rescale_4 .ret) .skip)) (.seq r_ingotref11_Rescale_5 r_ingotref11_Rescale_6))))) :: K) s := rfl
@[go_sem] def r_ingotref11_Rescale_8_o : List IOper := [
  ⟨(some 23), none, .mv (.t 1)⟩,
  ⟨(some 24), none, .mv (.t 2)⟩,
  ⟨(some 25), none, .bin .gtr (.t 23) (.t 24)⟩]
def r_ingotref11_Rescale_8 : ICode := .region r_ingotref11_Rescale_8_o [] [0, 1, 2, 25]
@[go_sem] theorem r_ingotref11_Rescale_8_u : go X (.c r_ingotref11_Rescale_8 :: K) s = goR X r_ingotref11_Rescale_8_o [0, 1, 2, 25] K s := go_region _ _
@[go_sem] def r_ingotref11_Rescale_9_o : List IOper := [
  ⟨(some 26), none, .mv (.t 0)⟩,
  ⟨(some 27), none, .bin .rem (.t 26) (.c (.int .i64 10))⟩,
  ⟨(some 28), none, .bin .neq (.t 27) (.c (.int .i64 0))⟩]
def r_ingotref11_Rescale_9 : ICode := .region r_ingotref11_Rescale_9_o [] [0, 1, 2, 28]
@[go_sem] theorem r_ingotref11_Rescale_9_u : go X (.c r_ingotref11_Rescale_9 :: K) s = goR X r_ingotref11_Rescale_9_o [0, 1, 2, 28] K s := go_region _ _
@[go_sem] def r_ingotref11_Rescale_10_o : List IOper := [
  ⟨(some 6), none, .asg (.c (.int .i64 0))⟩,
  ⟨(some 7), none, .asg (.c (.bool false))⟩]
def r_ingotref11_Rescale_10 : ICode := .region r_ingotref11_Rescale_10_o [] [6, 7]
@[go_sem] theorem r_ingotref11_Rescale_10_u : go X (.c r_ingotref11_Rescale_10 :: K) s = goR X r_ingotref11_Rescale_10_o [6, 7] K s := go_region _ _
@[go_sem] def r_ingotref11_Rescale_11_o : List IOper := [
  ⟨(some 29), none, .mv (.t 0)⟩,
  ⟨(some 30), none, .bin .quo (.t 29) (.c (.int .i64 10))⟩,
  ⟨(some 0), none, .asg (.t 30)⟩]
def r_ingotref11_Rescale_11 : ICode := .region r_ingotref11_Rescale_11_o [] [0, 1, 2]
@[go_sem] theorem r_ingotref11_Rescale_11_u : go X (.c r_ingotref11_Rescale_11 :: K) s = goR X r_ingotref11_Rescale_11_o [0, 1, 2] K s := go_region _ _
@[go_sem] def r_ingotref11_Rescale_12_o : List IOper := [
  ⟨(some 31), none, .mv (.t 1)⟩,
  ⟨(some 32), none, .bin .sub (.t 31) (.c (.int .i64 1))⟩,
  ⟨(some 1), none, .asg (.t 32)⟩]
def r_ingotref11_Rescale_12 : ICode := .region r_ingotref11_Rescale_12_o [] [0, 1, 2]
@[go_sem] theorem r_ingotref11_Rescale_12_u : go X (.c r_ingotref11_Rescale_12 :: K) s = goR X r_ingotref11_Rescale_12_o [0, 1, 2] K s := go_region _ _
def b_ingotref11_Rescale_13 : ICode := (.seq (.seq r_ingotref11_Rescale_8 (.cond (.t 25) .skip (.exit 2))) (.block 3 (.seq (.seq r_ingotref11_Rescale_9 (.cond (.t 28) (.seq r_ingotref11_Rescale_10 .ret) .skip)) (.seq r_ingotref11_Rescale_11 r_ingotref11_Rescale_12))))
@[go_sem] theorem b_ingotref11_Rescale_13_u : go X (.c b_ingotref11_Rescale_13 :: K) s = go X (.c (.seq (.seq r_ingotref11_Rescale_8 (.cond (.t 25) .skip (.exit 2))) (.block 3 (.seq (.seq r_ingotref11_Rescale_9 (.cond (.t 28) (.seq r_ingotref11_Rescale_10 .ret) .skip)) (.seq r_ingotref11_Rescale_11 r_ingotref11_Rescale_12)))) :: K) s := rfl
@[go_sem] def r_ingotref11_Rescale_14_o : List IOper := [
  ⟨(some 33), none, .mv (.t 0)⟩,
  ⟨(some 6), none, .asg (.t 33)⟩,
  ⟨(some 7), none, .asg (.c (.bool true))⟩]
def r_ingotref11_Rescale_14 : ICode := .region r_ingotref11_Rescale_14_o [] [6, 7]
@[go_sem] theorem r_ingotref11_Rescale_14_u : go X (.c r_ingotref11_Rescale_14 :: K) s = goR X r_ingotref11_Rescale_14_o [6, 7] K s := go_region _ _
def c_ingotref11_Rescale : ICode := (.seq r_ingotref11_Rescale_0 (.seq (.block 0 (.loop b_ingotref11_Rescale_7)) (.seq (.block 2 (.loop b_ingotref11_Rescale_13)) (.seq r_ingotref11_Rescale_14 .ret))))
def i_ingotref11_Rescale : IFunc := ⟨3, [.t 6, .t 7], c_ingotref11_Rescale⟩
def a_ingotref11_Rescale : Advice := ⟨[], [(12, [6, 7]), (11, [0, 1, 2]), (10, [0, 1, 2]), (9, [6, 7]), (8, [0, 1, 2, 28]), (7, [0, 1, 2, 25]), (6, [0, 1, 2]), (5, [0, 1, 2]), (4, [6, 7]), (3, [1, 2, 8, 19]), (2, [1, 2, 8, 9]), (1, [0, 1, 2, 12]), (0, [0, 1, 2])], [], [], []⟩
/-! ingot/ingotlaw11.DeciScales -/
@[go_sem] def r_ingotlaw11_DeciScales_0_o : List IOper := [
  ⟨(some 6), none, .asg (.c (.bool false))⟩]
def r_ingotlaw11_DeciScales_0 : ICode := .region r_ingotlaw11_DeciScales_0_o [] [0, 1, 2]
@[go_sem] theorem r_ingotlaw11_DeciScales_0_u : go X (.c r_ingotlaw11_DeciScales_0 :: K) s = goR X r_ingotlaw11_DeciScales_0_o [0, 1, 2] K s := go_region _ _
@[go_sem] def r_ingotlaw11_DeciScales_1_o : List IOper := [
  ⟨(some 13), none, .call false n_ingotlaw11_known []⟩,
  ⟨(some 14), none, .un .not (.t 13)⟩]
def r_ingotlaw11_DeciScales_1 : ICode := .region r_ingotlaw11_DeciScales_1_o [] [0, 1, 2, 14]
@[go_sem] theorem r_ingotlaw11_DeciScales_1_u : go X (.c r_ingotlaw11_DeciScales_1 :: K) s = goR X r_ingotlaw11_DeciScales_1_o [0, 1, 2, 14] K s := go_region _ _
@[go_sem] def r_ingotlaw11_DeciScales_2_o : List IOper := [
  ⟨(some 6), none, .asg (.c (.bool false))⟩]
def r_ingotlaw11_DeciScales_2 : ICode := .region r_ingotlaw11_DeciScales_2_o [] [6]
@[go_sem] theorem r_ingotlaw11_DeciScales_2_u : go X (.c r_ingotlaw11_DeciScales_2 :: K) s = goR X r_ingotlaw11_DeciScales_2_o [6] K s := go_region _ _
@[go_sem] def r_ingotlaw11_DeciScales_3_o : List IOper := [
  ⟨(some 15), none, .mv (.t 1)⟩,
  ⟨(some 16), none, .call false n_ingotlaw11_scale [(.t 15)]⟩,
  ⟨(some 17), none, .un .not (.t 16)⟩,
  ⟨(some 18), none, .mv (.t 17)⟩,
  ⟨(some 19), some (18, false), .mv (.t 2)⟩,
  ⟨(some 20), some (18, false), .call false n_ingotlaw11_scale [(.t 19)]⟩,
  ⟨(some 21), some (18, false), .un .not (.t 20)⟩,
  ⟨(some 22), none, .pick (.t 18) (.c (.bool true)) (.t 21)⟩]
def r_ingotlaw11_DeciScales_3 : ICode := .region r_ingotlaw11_DeciScales_3_o [] [0, 1, 2, 22]
@[go_sem] theorem r_ingotlaw11_DeciScales_3_u : go X (.c r_ingotlaw11_DeciScales_3 :: K) s = goR X r_ingotlaw11_DeciScales_3_o [0, 1, 2, 22] K s := go_region _ _
@[go_sem] def r_ingotlaw11_DeciScales_4_o : List IOper := [
  ⟨(some 6), none, .asg (.c (.bool true))⟩]
def r_ingotlaw11_DeciScales_4 : ICode := .region r_ingotlaw11_DeciScales_4_o [] [6]
@[go_sem] theorem r_ingotlaw11_DeciScales_4_u : go X (.c r_ingotlaw11_DeciScales_4 :: K) s = goR X r_ingotlaw11_DeciScales_4_o [6] K s := go_region _ _
@[go_sem] def r_ingotlaw11_DeciScales_5_o : List IOper := [
  ⟨(some 24), none, .mv (.t 0)⟩,
  ⟨(some 25), none, .mv (.t 1)⟩,
  ⟨(some 26), none, .mv (.t 2)⟩,
  ⟨(some 27), none, .call false n_deci_Rescale [(.t 24), (.t 25), (.t 26)]⟩,
  ⟨(some 23), none, .mv (.t 27)⟩,
  ⟨(some 28), none, .ext (.t 23) 0⟩,
  ⟨(some 29), none, .ext (.t 23) 1⟩,
  ⟨(some 7), none, .asg (.t 28)⟩,
  ⟨(some 8), none, .asg (.t 29)⟩]
def r_ingotlaw11_DeciScales_5 : ICode := .region r_ingotlaw11_DeciScales_5_o [] [0, 1, 2, 7, 8]
@[go_sem] theorem r_ingotlaw11_DeciScales_5_u : go X (.c r_ingotlaw11_DeciScales_5 :: K) s = goR X r_ingotlaw11_DeciScales_5_o [0, 1, 2, 7, 8] K s := go_region _ _
@[go_sem] def r_ingotlaw11_DeciScales_6_o : List IOper := [
  ⟨(some 31), none, .mv (.t 0)⟩,
  ⟨(some 32), none, .mv (.t 1)⟩,
  ⟨(some 33), none, .mv (.t 2)⟩,
  ⟨(some 34), none, .call false n_ingotref11_Rescale [(.t 31), (.t 32), (.t 33)]⟩,
  ⟨(some 30), none, .mv (.t 34)⟩,
  ⟨(some 35), none, .ext (.t 30) 0⟩,
  ⟨(some 36), none, .ext (.t 30) 1⟩,
  ⟨(some 9), none, .asg (.t 35)⟩,
  ⟨(some 10), none, .asg (.t 36)⟩]
def r_ingotlaw11_DeciScales_6 : ICode := .region r_ingotlaw11_DeciScales_6_o [] [0, 1, 2, 7, 8, 9, 10]
@[go_sem] theorem r_ingotlaw11_DeciScales_6_u : go X (.c r_ingotlaw11_DeciScales_6 :: K) s = goR X r_ingotlaw11_DeciScales_6_o [0, 1, 2, 7, 8, 9, 10] K s := go_region _ _
@[go_sem] def r_ingotlaw11_DeciScales_7_o : List IOper := [
  ⟨(some 37), none, .mv (.t 7)⟩,
  ⟨(some 38), none, .mv (.t 9)⟩,
  ⟨(some 39), none, .bin .neq (.t 37) (.t 38)⟩,
  ⟨(some 40), none, .mv (.t 39)⟩,
  ⟨(some 41), some (40, false), .mv (.t 8)⟩,
  ⟨(some 42), some (40, false), .mv (.t 10)⟩,
  ⟨(some 43), some (40, false), .eqn true .bool (.t 41) (.t 42)⟩,
  ⟨(some 44), none, .pick (.t 40) (.c (.bool true)) (.t 43)⟩]
def r_ingotlaw11_DeciScales_7 : ICode := .region r_ingotlaw11_DeciScales_7_o [] [0, 1, 2, 7, 8, 44]
@[go_sem] theorem r_ingotlaw11_DeciScales_7_u : go X (.c r_ingotlaw11_DeciScales_7 :: K) s = goR X r_ingotlaw11_DeciScales_7_o [0, 1, 2, 7, 8, 44] K s := go_region _ _
@[go_sem] def r_ingotlaw11_DeciScales_8_o : List IOper := [
  ⟨(some 6), none, .asg (.c (.bool false))⟩]
def r_ingotlaw11_DeciScales_8 : ICode := .region r_ingotlaw11_DeciScales_8_o [] [6]
@[go_sem] theorem r_ingotlaw11_DeciScales_8_u : go X (.c r_ingotlaw11_DeciScales_8 :: K) s = goR X r_ingotlaw11_DeciScales_8_o [6] K s := go_region _ _
@[go_sem] def r_ingotlaw11_DeciScales_9_o : List IOper := [
  ⟨(some 45), none, .mv (.t 8)⟩,
  ⟨(some 46), none, .un .not (.t 45)⟩]
def r_ingotlaw11_DeciScales_9 : ICode := .region r_ingotlaw11_DeciScales_9_o [] [0, 1, 2, 7, 46]
@[go_sem] theorem r_ingotlaw11_DeciScales_9_u : go X (.c r_ingotlaw11_DeciScales_9 :: K) s = goR X r_ingotlaw11_DeciScales_9_o [0, 1, 2, 7, 46] K s := go_region _ _
@[go_sem] def r_ingotlaw11_DeciScales_10_o : List IOper := [
  ⟨(some 47), none, .mv (.t 7)⟩,
  ⟨(some 48), none, .bin .eql (.t 47) (.c (.int .i64 0))⟩,
  ⟨(some 6), none, .asg (.t 48)⟩]
def r_ingotlaw11_DeciScales_10 : ICode := .region r_ingotlaw11_DeciScales_10_o [] [6]
@[go_sem] theorem r_ingotlaw11_DeciScales_10_u : go X (.c r_ingotlaw11_DeciScales_10 :: K) s = goR X r_ingotlaw11_DeciScales_10_o [6] K s := go_region _ _
@[go_sem] def r_ingotlaw11_DeciScales_11_o : List IOper := [
  ⟨(some 50), none, .mv (.t 7)⟩,
  ⟨(some 51), none, .mv (.t 2)⟩,
  ⟨(some 52), none, .mv (.t 1)⟩,
  ⟨(some 53), none, .call false n_deci_Rescale [(.t 50), (.t 51), (.t 52)]⟩,
  ⟨(some 49), none, .mv (.t 53)⟩,
  ⟨(some 54), none, .ext (.t 49) 0⟩,
  ⟨(some 55), none, .ext (.t 49) 1⟩,
  ⟨(some 11), none, .asg (.t 54)⟩,
  ⟨(some 12), none, .asg (.t 55)⟩]
def r_ingotlaw11_DeciScales_11 : ICode := .region r_ingotlaw11_DeciScales_11_o [] [0, 1, 2, 7, 11, 12]
@[go_sem] theorem r_ingotlaw11_DeciScales_11_u : go X (.c r_ingotlaw11_DeciScales_11 :: K) s = goR X r_ingotlaw11_DeciScales_11_o [0, 1, 2, 7, 11, 12] K s := go_region _ _
@[go_sem] def r_ingotlaw11_DeciScales_12_o : List IOper := [
  ⟨(some 56), none, .mv (.t 12)⟩,
  ⟨(some 57), none, .mv (.t 56)⟩,
  ⟨(some 58), some (57, true), .mv (.t 11)⟩,
  ⟨(some 59), some (57, true), .mv (.t 0)⟩,
  ⟨(some 60), some (57, true), .bin .eql (.t 58) (.t 59)⟩,
  ⟨(some 61), none, .pick (.t 57) (.t 60) (.c (.bool false))⟩,
  ⟨(some 62), none, .mv (.t 61)⟩,
  ⟨(some 63), some (62, true), .mv (.t 0)⟩,
  ⟨(some 64), some (62, true), .mv (.t 1)⟩,
  ⟨(some 65), some (62, true), .mv (.t 7)⟩,
  ⟨(some 66), some (62, true), .mv (.t 2)⟩,
  ⟨(some 67), some (62, true), .call false n_deci_Compare [(.t 63), (.t 64), (.t 65), (.t 66)]⟩,
  ⟨(some 68), some (62, true), .bin .eql (.t 67) (.c (.int .i64 0))⟩,
  ⟨(some 69), none, .pick (.t 62) (.t 68) (.c (.bool false))⟩,
  ⟨(some 6), none, .asg (.t 69)⟩]
def r_ingotlaw11_DeciScales_12 : ICode := .region r_ingotlaw11_DeciScales_12_o [] [6]
@[go_sem] theorem r_ingotlaw11_DeciScales_12_u : go X (.c r_ingotlaw11_DeciScales_12 :: K) s = goR X r_ingotlaw11_DeciScales_12_o [6] K s := go_region _ _
def c_ingotlaw11_DeciScales : ICode := (.seq r_ingotlaw11_DeciScales_0 (.seq r_ingotlaw11_DeciScales_1 (.cond (.t 14) (.seq r_ingotlaw11_DeciScales_2 .ret) (.seq r_ingotlaw11_DeciScales_3 (.cond (.t 22) (.seq r_ingotlaw11_DeciScales_4 .ret) (.seq r_ingotlaw11_DeciScales_5 (.seq r_ingotlaw11_DeciScales_6 (.seq r_ingotlaw11_DeciScales_7 (.cond (.t 44) (.seq r_ingotlaw11_DeciScales_8 .ret) (.seq r_ingotlaw11_DeciScales_9 (.cond (.t 46) (.seq r_ingotlaw11_DeciScales_10 .ret) (.seq r_ingotlaw11_DeciScales_11 (.seq r_ingotlaw11_DeciScales_12 .ret)))))))))))))
def i_ingotlaw11_DeciScales : IFunc := ⟨3, [.t 6], c_ingotlaw11_DeciScales⟩
def a_ingotlaw11_DeciScales : Advice := ⟨[], [(12, [6]), (11, [0, 1, 2, 7, 11, 12]), (10, [6]), (9, [0, 1, 2, 7, 46]), (8, [6]), (7, [0, 1, 2, 7, 8, 44]), (6, [0, 1, 2, 7, 8, 9, 10]), (5, [0, 1, 2, 7, 8]), (4, [6]), (3, [0, 1, 2, 22]), (2, [6]), (1, [0, 1, 2, 14]), (0, [0, 1, 2])], [], [], []⟩
/-! ingot/ingotref11.Digits -/
@[go_sem] def r_ingotref11_Digits_0_o : List IOper := [
  ⟨(some 2), none, .asg (.c (.int .i64 0))⟩]
def r_ingotref11_Digits_0 : ICode := .region r_ingotref11_Digits_0_o [] [0]
@[go_sem] theorem r_ingotref11_Digits_0_u : go X (.c r_ingotref11_Digits_0 :: K) s = goR X r_ingotref11_Digits_0_o [0] K s := go_region _ _
@[go_sem] def r_ingotref11_Digits_1_o : List IOper := [
  ⟨(some 3), none, .mv (.t 0)⟩,
  ⟨(some 4), none, .call false n_ingotref11_size [(.t 3)]⟩,
  ⟨(some 5), none, .call false n_ingotref11_digits [(.t 4)]⟩,
  ⟨(some 6), none, .len true (.t 5)⟩,
  ⟨(some 2), none, .asg (.t 6)⟩]
def r_ingotref11_Digits_1 : ICode := .region r_ingotref11_Digits_1_o [] [2]
@[go_sem] theorem r_ingotref11_Digits_1_u : go X (.c r_ingotref11_Digits_1 :: K) s = goR X r_ingotref11_Digits_1_o [2] K s := go_region _ _
def c_ingotref11_Digits : ICode := (.seq r_ingotref11_Digits_0 (.seq r_ingotref11_Digits_1 .ret))
def i_ingotref11_Digits : IFunc := ⟨1, [.t 2], c_ingotref11_Digits⟩
def a_ingotref11_Digits : Advice := ⟨[], [(1, [2]), (0, [0])], [], [], []⟩
/-! ingot/ingotref11.digits -/
@[go_sem] def r_ingotref11_digits_0_o : List IOper := [
  ⟨(some 2), none, .asg (.c (.str []))⟩]
def r_ingotref11_digits_0 : ICode := .region r_ingotref11_digits_0_o [] [0]
@[go_sem] theorem r_ingotref11_digits_0_u : go X (.c r_ingotref11_digits_0 :: K) s = goR X r_ingotref11_digits_0_o [0] K s := go_region _ _
@[go_sem] def r_ingotref11_digits_1_o : List IOper := [
  ⟨(some 4), none, .mv (.t 0)⟩,
  ⟨(some 5), none, .bin .rem (.t 4) (.c (.int .u64 10))⟩,
  ⟨(some 6), none, .bin .add (.c (.int .u64 48)) (.t 5)⟩,
  ⟨(some 7), none, .cvInt .u8 (.t 6)⟩,
  ⟨(some 8), none, .lit false 1 1 (.int .u8 0) [(0, (.t 7))]⟩,
  ⟨(some 9), none, .b2s (.t 8)⟩,
  ⟨(some 3), none, .asg (.t 9)⟩]
def r_ingotref11_digits_1 : ICode := .region r_ingotref11_digits_1_o [] [0, 3]
@[go_sem] theorem r_ingotref11_digits_1_u : go X (.c r_ingotref11_digits_1 :: K) s = goR X r_ingotref11_digits_1_o [0, 3] K s := go_region _ _
@[go_sem] def r_ingotref11_digits_2_o : List IOper := [
  ⟨(some 10), none, .mv (.t 0)⟩,
  ⟨(some 11), none, .bin .geq (.t 10) (.c (.int .u64 10))⟩]
def r_ingotref11_digits_2 : ICode := .region r_ingotref11_digits_2_o [] [0, 3, 11]
@[go_sem] theorem r_ingotref11_digits_2_u : go X (.c r_ingotref11_digits_2 :: K) s = goR X r_ingotref11_digits_2_o [0, 3, 11] K s := go_region _ _
@[go_sem] def r_ingotref11_digits_3_o : List IOper := [
  ⟨(some 12), none, .mv (.t 0)⟩,
  ⟨(some 13), none, .bin .quo (.t 12) (.c (.int .u64 10))⟩,
  ⟨(some 0), none, .asg (.t 13)⟩]
def r_ingotref11_digits_3 : ICode := .region r_ingotref11_digits_3_o [] [0, 3]
@[go_sem] theorem r_ingotref11_digits_3_u : go X (.c r_ingotref11_digits_3 :: K) s = goR X r_ingotref11_digits_3_o [0, 3] K s := go_region _ _
@[go_sem] def r_ingotref11_digits_4_o : List IOper := [
  ⟨(some 14), none, .mv (.t 0)⟩,
  ⟨(some 15), none, .bin .rem (.t 14) (.c (.int .u64 10))⟩,
  ⟨(some 16), none, .bin .add (.c (.int .u64 48)) (.t 15)⟩,
  ⟨(some 17), none, .cvInt .u8 (.t 16)⟩,
  ⟨(some 18), none, .lit false 1 1 (.int .u8 0) [(0, (.t 17))]⟩,
  ⟨(some 19), none, .b2s (.t 18)⟩,
  ⟨(some 20), none, .mv (.t 3)⟩,
  ⟨(some 21), none, .bin .add (.t 19) (.t 20)⟩,
  ⟨(some 3), none, .asg (.t 21)⟩]
def r_ingotref11_digits_4 : ICode := .region r_ingotref11_digits_4_o [] [0, 3]
@[go_sem] theorem r_ingotref11_digits_4_u : go X (.c r_ingotref11_digits_4 :: K) s = goR X r_ingotref11_digits_4_o [0, 3] K s := go_region _ _
def b_ingotref11_digits_5 : ICode := (.seq (.seq r_ingotref11_digits_2 (.cond (.t 11) .skip (.exit 0))) (.block 1 (.seq r_ingotref11_digits_3 r_ingotref11_digits_4)))
@[go_sem] theorem b_ingotref11_digits_5_u : go X (.c b_ingotref11_digits_5 :: K) s = go X (.c (.seq (.seq r_ingotref11_digits_2 (.cond (.t 11) .skip (.exit 0))) (.block 1 (.seq r_ingotref11_digits_3 r_ingotref11_digits_4))) :: K) s := rfl
@[go_sem] def r_ingotref11_digits_6_o : List IOper := [
  ⟨(some 22), none, .mv (.t 3)⟩,
  ⟨(some 2), none, .asg (.t 22)⟩]
def r_ingotref11_digits_6 : ICode := .region r_ingotref11_digits_6_o [] [2]
@[go_sem] theorem r_ingotref11_digits_6_u : go X (.c r_ingotref11_digits_6 :: K) s = goR X r_ingotref11_digits_6_o [2] K s := go_region _ _
def c_ingotref11_digits : ICode := (.seq r_ingotref11_digits_0 (.seq r_ingotref11_digits_1 (.seq (.block 0 (.loop b_ingotref11_digits_5)) (.seq r_ingotref11_digits_6 .ret))))
def i_ingotref11_digits : IFunc := ⟨1, [.t 2], c_ingotref11_digits⟩
def a_ingotref11_digits : Advice := ⟨[], [(5, [2]), (4, [0, 3]), (3, [0, 3]), (2, [0, 3, 11]), (1, [0, 3]), (0, [0])], [], [], []⟩
/-! ingot/ingotref11.size -/
@[go_sem] def r_ingotref11_size_0_o : List IOper := [
  ⟨(some 2), none, .asg (.c (.int .u64 0))⟩]
def r_ingotref11_size_0 : ICode := .region r_ingotref11_size_0_o [] [0]
@[go_sem] theorem r_ingotref11_size_0_u : go X (.c r_ingotref11_size_0 :: K) s = goR X r_ingotref11_size_0_o [0] K s := go_region _ _
@[go_sem] def r_ingotref11_size_1_o : List IOper := [
  ⟨(some 3), none, .mv (.t 0)⟩,
  ⟨(some 4), none, .bin .lss (.t 3) (.c (.int .i64 0))⟩]
def r_ingotref11_size_1 : ICode := .region r_ingotref11_size_1_o [] [0, 4]
@[go_sem] theorem r_ingotref11_size_1_u : go X (.c r_ingotref11_size_1 :: K) s = goR X r_ingotref11_size_1_o [0, 4] K s := go_region _ _
@[go_sem] def r_ingotref11_size_2_o : List IOper := [
  ⟨(some 5), none, .mv (.t 0)⟩,
  ⟨(some 6), none, .bin .add (.t 5) (.c (.int .i64 1))⟩,
  ⟨(some 7), none, .bin .sub (.c (.int .i64 0)) (.t 6)⟩,
  ⟨(some 8), none, .cvInt .u64 (.t 7)⟩,
  ⟨(some 9), none, .bin .add (.t 8) (.c (.int .u64 1))⟩,
  ⟨(some 2), none, .asg (.t 9)⟩]
def r_ingotref11_size_2 : ICode := .region r_ingotref11_size_2_o [] [2]
@[go_sem] theorem r_ingotref11_size_2_u : go X (.c r_ingotref11_size_2 :: K) s = goR X r_ingotref11_size_2_o [2] K s := go_region _ _
@[go_sem] def r_ingotref11_size_3_o : List IOper := [
  ⟨(some 10), none, .mv (.t 0)⟩,
  ⟨(some 11), none, .cvInt .u64 (.t 10)⟩,
  ⟨(some 2), none, .asg (.t 11)⟩]
def r_ingotref11_size_3 : ICode := .region r_ingotref11_size_3_o [] [2]
@[go_sem] theorem r_ingotref11_size_3_u : go X (.c r_ingotref11_size_3 :: K) s = goR X r_ingotref11_size_3_o [2] K s := go_region _ _
def c_ingotref11_size : ICode := (.seq r_ingotref11_size_0 (.seq r_ingotref11_size_1 (.cond (.t 4) (.seq r_ingotref11_size_2 .ret) (.seq r_ingotref11_size_3 .ret))))
def i_ingotref11_size : IFunc := ⟨1, [.t 2], c_ingotref11_size⟩
def a_ingotref11_size : Advice := ⟨[], [(3, [2]), (2, [2]), (1, [0, 4]), (0, [0])], [], [], []⟩
/-! ingot/ingotref11.Text -/
@[go_sem] def r_ingotref11_Text_0_o : List IOper := [
  ⟨(some 4), none, .asg (.c (.str []))⟩]
def r_ingotref11_Text_0 : ICode := .region r_ingotref11_Text_0_o [] [0, 1]
@[go_sem] theorem r_ingotref11_Text_0_u : go X (.c r_ingotref11_Text_0 :: K) s = goR X r_ingotref11_Text_0_o [0, 1] K s := go_region _ _
@[go_sem] def r_ingotref11_Text_1_o : List IOper := [
  ⟨(some 6), none, .mv (.t 0)⟩,
  ⟨(some 7), none, .call false n_ingotref11_size [(.t 6)]⟩,
  ⟨(some 8), none, .call false n_ingotref11_digits [(.t 7)]⟩,
  ⟨(some 5), none, .asg (.t 8)⟩]
def r_ingotref11_Text_1 : ICode := .region r_ingotref11_Text_1_o [] [0, 1, 5]
@[go_sem] theorem r_ingotref11_Text_1_u : go X (.c r_ingotref11_Text_1 :: K) s = goR X r_ingotref11_Text_1_o [0, 1, 5] K s := go_region _ _
@[go_sem] def r_ingotref11_Text_2_o : List IOper := [
  ⟨(some 9), none, .mv (.t 5)⟩,
  ⟨(some 10), none, .len true (.t 9)⟩,
  ⟨(some 11), none, .mv (.t 1)⟩,
  ⟨(some 12), none, .bin .leq (.t 10) (.t 11)⟩]
def r_ingotref11_Text_2 : ICode := .region r_ingotref11_Text_2_o [] [0, 1, 5, 12]
@[go_sem] theorem r_ingotref11_Text_2_u : go X (.c r_ingotref11_Text_2 :: K) s = goR X r_ingotref11_Text_2_o [0, 1, 5, 12] K s := go_region _ _
@[go_sem] def r_ingotref11_Text_3_o : List IOper := [
  ⟨(some 13), none, .mv (.t 5)⟩,
  ⟨(some 14), none, .bin .add (.c (.str [48])) (.t 13)⟩,
  ⟨(some 5), none, .asg (.t 14)⟩]
def r_ingotref11_Text_3 : ICode := .region r_ingotref11_Text_3_o [] [0, 1, 5]
@[go_sem] theorem r_ingotref11_Text_3_u : go X (.c r_ingotref11_Text_3 :: K) s = goR X r_ingotref11_Text_3_o [0, 1, 5] K s := go_region _ _
def b_ingotref11_Text_4 : ICode := (.seq (.seq r_ingotref11_Text_2 (.cond (.t 12) .skip (.exit 0))) (.block 1 r_ingotref11_Text_3))
@[go_sem] theorem b_ingotref11_Text_4_u : go X (.c b_ingotref11_Text_4 :: K) s = go X (.c (.seq (.seq r_ingotref11_Text_2 (.cond (.t 12) .skip (.exit 0))) (.block 1 r_ingotref11_Text_3)) :: K) s := rfl
@[go_sem] def r_ingotref11_Text_5_o : List IOper := [
  ⟨(some 15), none, .mv (.t 1)⟩,
  ⟨(some 16), none, .bin .gtr (.t 15) (.c (.int .i64 0))⟩]
def r_ingotref11_Text_5 : ICode := .region r_ingotref11_Text_5_o [] [0, 1, 5, 16]
@[go_sem] theorem r_ingotref11_Text_5_u : go X (.c r_ingotref11_Text_5 :: K) s = goR X r_ingotref11_Text_5_o [0, 1, 5, 16] K s := go_region _ _
@[go_sem] def r_ingotref11_Text_6_o : List IOper := [
  ⟨(some 17), none, .mv (.t 5)⟩,
  ⟨(some 18), none, .mv (.t 5)⟩,
  ⟨(some 19), none, .len true (.t 18)⟩,
  ⟨(some 20), none, .mv (.t 1)⟩,
  ⟨(some 21), none, .bin .sub (.t 19) (.t 20)⟩,
  ⟨(some 22), none, .sliceS (.t 17) none (some (.t 21))⟩,
  ⟨(some 23), none, .bin .add (.t 22) (.c (.str [46]))⟩,
  ⟨(some 24), none, .mv (.t 5)⟩,
  ⟨(some 25), none, .mv (.t 5)⟩,
  ⟨(some 26), none, .len true (.t 25)⟩,
  ⟨(some 27), none, .mv (.t 1)⟩,
  ⟨(some 28), none, .bin .sub (.t 26) (.t 27)⟩,
  ⟨(some 29), none, .sliceS (.t 24) (some (.t 28)) none⟩,
  ⟨(some 30), none, .bin .add (.t 23) (.t 29)⟩,
  ⟨(some 5), none, .asg (.t 30)⟩]
def r_ingotref11_Text_6_n : List (Nat × Nat) := [(0, 1), (0, 2), (0, 3), (1, 3), (2, 3), (0, 4), (0, 7), (1, 7), (2, 7), (3, 7), (4, 7), (5, 7), (6, 7), (0, 8), (1, 8), (2, 8), (3, 8), (4, 8), (5, 8), (6, 8), (7, 8), (0, 9), (1, 9), (2, 9), (3, 9), (4, 9), (5, 9), (6, 9), (7, 9), (0, 10), (1, 10), (2, 10), (3, 10), (4, 10), (5, 10), (6, 10), (7, 10), (8, 10), (9, 10), (0, 11), (1, 11), (2, 11), (3, 11), (4, 11), (5, 11), (6, 11), (7, 11), (0, 12), (1, 12), (2, 12), (3, 12), (4, 12), (5, 12), (6, 12)]
def r_ingotref11_Text_6 : ICode := .region r_ingotref11_Text_6_o r_ingotref11_Text_6_n [0, 5]
@[go_sem] theorem r_ingotref11_Text_6_u : go X (.c r_ingotref11_Text_6 :: K) s = goRU X [] r_ingotref11_Text_6_n r_ingotref11_Text_6_o [0, 5] K s := go_regionU' _ _ _ _
@[go_sem] def r_ingotref11_Text_7_o : List IOper := [
  ⟨(some 31), none, .mv (.t 0)⟩,
  ⟨(some 32), none, .bin .lss (.t 31) (.c (.int .i64 0))⟩]
def r_ingotref11_Text_7 : ICode := .region r_ingotref11_Text_7_o [] [5, 32]
@[go_sem] theorem r_ingotref11_Text_7_u : go X (.c r_ingotref11_Text_7 :: K) s = goR X r_ingotref11_Text_7_o [5, 32] K s := go_region _ _
@[go_sem] def r_ingotref11_Text_8_o : List IOper := [
  ⟨(some 33), none, .mv (.t 5)⟩,
  ⟨(some 34), none, .bin .add (.c (.str [45])) (.t 33)⟩,
  ⟨(some 4), none, .asg (.t 34)⟩]
def r_ingotref11_Text_8 : ICode := .region r_ingotref11_Text_8_o [] [4]
@[go_sem] theorem r_ingotref11_Text_8_u : go X (.c r_ingotref11_Text_8 :: K) s = goR X r_ingotref11_Text_8_o [4] K s := go_region _ _
@[go_sem] def r_ingotref11_Text_9_o : List IOper := [
  ⟨(some 35), none, .mv (.t 5)⟩,
  ⟨(some 4), none, .asg (.t 35)⟩]
def r_ingotref11_Text_9 : ICode := .region r_ingotref11_Text_9_o [] [4]
@[go_sem] theorem r_ingotref11_Text_9_u : go X (.c r_ingotref11_Text_9 :: K) s = goR X r_ingotref11_Text_9_o [4] K s := go_region _ _
def c_ingotref11_Text : ICode := (.seq r_ingotref11_Text_0 (.seq r_ingotref11_Text_1 (.seq (.block 0 (.loop b_ingotref11_Text_4)) (.seq (.seq r_ingotref11_Text_5 (.cond (.t 16) r_ingotref11_Text_6 .skip)) (.seq r_ingotref11_Text_7 (.cond (.t 32) (.seq r_ingotref11_Text_8 .ret) (.seq r_ingotref11_Text_9 .ret)))))))
def i_ingotref11_Text : IFunc := ⟨2, [.t 4], c_ingotref11_Text⟩
def a_ingotref11_Text : Advice := ⟨[], [(8, [4]), (7, [4]), (6, [5, 32]), (5, [0, 5]), (4, [0, 1, 5, 16]), (3, [0, 1, 5]), (2, [0, 1, 5, 12]), (1, [0, 1, 5]), (0, [0, 1])], [], [], []⟩
/-! ingot/ingotref1.Add -/
@[go_sem] def r_ingotref1_Add_0_o : List IOper := [
  ⟨(some 4), none, .asg (.c (.int .i64 0))⟩,
  ⟨(some 5), none, .asg (.c (.bool false))⟩]
def r_ingotref1_Add_0 : ICode := .region r_ingotref1_Add_0_o [] [0, 1]
@[go_sem] theorem r_ingotref1_Add_0_u : go X (.c r_ingotref1_Add_0 :: K) s = goR X r_ingotref1_Add_0_o [0, 1] K s := go_region _ _
@[go_sem] def r_ingotref1_Add_1_o : List IOper := [
  ⟨(some 6), none, .mv (.t 1)⟩,
  ⟨(some 7), none, .bin .gtr (.t 6) (.c (.int .i64 0))⟩,
  ⟨(some 8), none, .mv (.t 7)⟩,
  ⟨(some 9), some (8, true), .mv (.t 0)⟩,
  ⟨(some 10), some (8, true), .mv (.t 1)⟩,
  ⟨(some 11), some (8, true), .bin .sub (.c (.int .i64 9223372036854775807)) (.t 10)⟩,
  ⟨(some 12), some (8, true), .bin .gtr (.t 9) (.t 11)⟩,
  ⟨(some 13), none, .pick (.t 8) (.t 12) (.c (.bool false))⟩,
  ⟨(some 14), none, .mv (.t 13)⟩,
  ⟨(some 15), some (14, false), .mv (.t 1)⟩,
  ⟨(some 16), some (14, false), .bin .lss (.t 15) (.c (.int .i64 0))⟩,
  ⟨(some 17), some (14, false), .mv (.t 16)⟩,
  ⟨(some 18), some (17, true), .mv (.t 0)⟩,
  ⟨(some 19), some (17, true), .mv (.t 1)⟩,
  ⟨(some 20), some (17, true), .bin .sub (.c (.int .i64 (-9223372036854775808))) (.t 19)⟩,
  ⟨(some 21), some (17, true), .bin .lss (.t 18) (.t 20)⟩,
  ⟨(some 22), some (14, false), .pick (.t 17) (.t 21) (.c (.bool false))⟩,
  ⟨(some 23), none, .pick (.t 14) (.c (.bool true)) (.t 22)⟩]
def r_ingotref1_Add_1 : ICode := .region r_ingotref1_Add_1_o [] [0, 1, 23]
@[go_sem] theorem r_ingotref1_Add_1_u : go X (.c r_ingotref1_Add_1 :: K) s = goR X r_ingotref1_Add_1_o [0, 1, 23] K s := go_region _ _
@[go_sem] def r_ingotref1_Add_2_o : List IOper := [
  ⟨(some 4), none, .asg (.c (.int .i64 0))⟩,
  ⟨(some 5), none, .asg (.c (.bool false))⟩]
def r_ingotref1_Add_2 : ICode := .region r_ingotref1_Add_2_o [] [4, 5]
@[go_sem] theorem r_ingotref1_Add_2_u : go X (.c r_ingotref1_Add_2 :: K) s = goR X r_ingotref1_Add_2_o [4, 5] K s := go_region _ _
@[go_sem] def r_ingotref1_Add_3_o : List IOper := [
  ⟨(some 24), none, .mv (.t 0)⟩,
  ⟨(some 25), none, .mv (.t 1)⟩,
  ⟨(some 26), none, .bin .add (.t 24) (.t 25)⟩,
  ⟨(some 4), none, .asg (.t 26)⟩,
  ⟨(some 5), none, .asg (.c (.bool true))⟩]
def r_ingotref1_Add_3 : ICode := .region r_ingotref1_Add_3_o [] [4, 5]
@[go_sem] theorem r_ingotref1_Add_3_u : go X (.c r_ingotref1_Add_3 :: K) s = goR X r_ingotref1_Add_3_o [4, 5] K s := go_region _ _
def c_ingotref1_Add : ICode := (.seq r_ingotref1_Add_0 (.seq r_ingotref1_Add_1 (.cond (.t 23) (.seq r_ingotref1_Add_2 .ret) (.seq r_ingotref1_Add_3 .ret))))
def i_ingotref1_Add : IFunc := ⟨2, [.t 4, .t 5], c_ingotref1_Add⟩
def a_ingotref1_Add : Advice := ⟨[], [(3, [4, 5]), (2, [4, 5]), (1, [0, 1, 23]), (0, [0, 1])], [], [], []⟩
/-! ingot/ingotref1.size -/
@[go_sem] def r_ingotref1_size_0_o : List IOper := [
  ⟨(some 2), none, .asg (.c (.int .u64 0))⟩]
def r_ingotref1_size_0 : ICode := .region r_ingotref1_size_0_o [] [0]
@[go_sem] theorem r_ingotref1_size_0_u : go X (.c r_ingotref1_size_0 :: K) s = goR X r_ingotref1_size_0_o [0] K s := go_region _ _
@[go_sem] def r_ingotref1_size_1_o : List IOper := [
  ⟨(some 3), none, .mv (.t 0)⟩,
  ⟨(some 4), none, .bin .lss (.t 3) (.c (.int .i64 0))⟩]
def r_ingotref1_size_1 : ICode := .region r_ingotref1_size_1_o [] [0, 4]
@[go_sem] theorem r_ingotref1_size_1_u : go X (.c r_ingotref1_size_1 :: K) s = goR X r_ingotref1_size_1_o [0, 4] K s := go_region _ _
@[go_sem] def r_ingotref1_size_2_o : List IOper := [
  ⟨(some 5), none, .mv (.t 0)⟩,
  ⟨(some 6), none, .bin .add (.t 5) (.c (.int .i64 1))⟩,
  ⟨(some 7), none, .bin .sub (.c (.int .i64 0)) (.t 6)⟩,
  ⟨(some 8), none, .cvInt .u64 (.t 7)⟩,
  ⟨(some 9), none, .bin .add (.t 8) (.c (.int .u64 1))⟩,
  ⟨(some 2), none, .asg (.t 9)⟩]
def r_ingotref1_size_2 : ICode := .region r_ingotref1_size_2_o [] [2]
@[go_sem] theorem r_ingotref1_size_2_u : go X (.c r_ingotref1_size_2 :: K) s = goR X r_ingotref1_size_2_o [2] K s := go_region _ _
@[go_sem] def r_ingotref1_size_3_o : List IOper := [
  ⟨(some 10), none, .mv (.t 0)⟩,
  ⟨(some 11), none, .cvInt .u64 (.t 10)⟩,
  ⟨(some 2), none, .asg (.t 11)⟩]
def r_ingotref1_size_3 : ICode := .region r_ingotref1_size_3_o [] [2]
@[go_sem] theorem r_ingotref1_size_3_u : go X (.c r_ingotref1_size_3 :: K) s = goR X r_ingotref1_size_3_o [2] K s := go_region _ _
def c_ingotref1_size : ICode := (.seq r_ingotref1_size_0 (.seq r_ingotref1_size_1 (.cond (.t 4) (.seq r_ingotref1_size_2 .ret) (.seq r_ingotref1_size_3 .ret))))
def i_ingotref1_size : IFunc := ⟨1, [.t 2], c_ingotref1_size⟩
def a_ingotref1_size : Advice := ⟨[], [(3, [2]), (2, [2]), (1, [0, 4]), (0, [0])], [], [], []⟩
/-! ingot/ingotref1.Mul -/
@[go_sem] def r_ingotref1_Mul_0_o : List IOper := [
  ⟨(some 4), none, .asg (.c (.int .i64 0))⟩,
  ⟨(some 5), none, .asg (.c (.bool false))⟩]
def r_ingotref1_Mul_0 : ICode := .region r_ingotref1_Mul_0_o [] [0, 1]
@[go_sem] theorem r_ingotref1_Mul_0_u : go X (.c r_ingotref1_Mul_0 :: K) s = goR X r_ingotref1_Mul_0_o [0, 1] K s := go_region _ _
@[go_sem] def r_ingotref1_Mul_1_o : List IOper := [
  ⟨(some 9), none, .mv (.t 0)⟩,
  ⟨(some 10), none, .call false n_ingotref1_size [(.t 9)]⟩,
  ⟨(some 6), none, .asg (.t 10)⟩]
def r_ingotref1_Mul_1 : ICode := .region r_ingotref1_Mul_1_o [] [0, 1, 6]
@[go_sem] theorem r_ingotref1_Mul_1_u : go X (.c r_ingotref1_Mul_1 :: K) s = goR X r_ingotref1_Mul_1_o [0, 1, 6] K s := go_region _ _
@[go_sem] def r_ingotref1_Mul_2_o : List IOper := [
  ⟨(some 11), none, .mv (.t 1)⟩,
  ⟨(some 12), none, .call false n_ingotref1_size [(.t 11)]⟩,
  ⟨(some 7), none, .asg (.t 12)⟩]
def r_ingotref1_Mul_2 : ICode := .region r_ingotref1_Mul_2_o [] [0, 1, 6, 7]
@[go_sem] theorem r_ingotref1_Mul_2_u : go X (.c r_ingotref1_Mul_2 :: K) s = goR X r_ingotref1_Mul_2_o [0, 1, 6, 7] K s := go_region _ _
@[go_sem] def r_ingotref1_Mul_3_o : List IOper := [
  ⟨(some 8), none, .asg (.c (.int .u64 9223372036854775807))⟩]
def r_ingotref1_Mul_3 : ICode := .region r_ingotref1_Mul_3_o [] [0, 1, 6, 7, 8]
@[go_sem] theorem r_ingotref1_Mul_3_u : go X (.c r_ingotref1_Mul_3 :: K) s = goR X r_ingotref1_Mul_3_o [0, 1, 6, 7, 8] K s := go_region _ _
@[go_sem] def r_ingotref1_Mul_4_o : List IOper := [
  ⟨(some 13), none, .mv (.t 0)⟩,
  ⟨(some 14), none, .bin .lss (.t 13) (.c (.int .i64 0))⟩,
  ⟨(some 15), none, .mv (.t 1)⟩,
  ⟨(some 16), none, .bin .lss (.t 15) (.c (.int .i64 0))⟩,
  ⟨(some 17), none, .eqn true .bool (.t 14) (.t 16)⟩]
def r_ingotref1_Mul_4 : ICode := .region r_ingotref1_Mul_4_o [] [0, 1, 6, 7, 8, 17]
@[go_sem] theorem r_ingotref1_Mul_4_u : go X (.c r_ingotref1_Mul_4 :: K) s = goR X r_ingotref1_Mul_4_o [0, 1, 6, 7, 8, 17] K s := go_region _ _
@[go_sem] def r_ingotref1_Mul_5_o : List IOper := [
  ⟨(some 18), none, .mv (.t 8)⟩,
  ⟨(some 19), none, .bin .add (.t 18) (.c (.int .u64 1))⟩,
  ⟨(some 8), none, .asg (.t 19)⟩]
def r_ingotref1_Mul_5 : ICode := .region r_ingotref1_Mul_5_o [] [0, 1, 6, 7, 8]
@[go_sem] theorem r_ingotref1_Mul_5_u : go X (.c r_ingotref1_Mul_5 :: K) s = goR X r_ingotref1_Mul_5_o [0, 1, 6, 7, 8] K s := go_region _ _
@[go_sem] def r_ingotref1_Mul_6_o : List IOper := [
  ⟨(some 20), none, .mv (.t 6)⟩,
  ⟨(some 21), none, .bin .neq (.t 20) (.c (.int .u64 0))⟩,
  ⟨(some 22), none, .mv (.t 21)⟩,
  ⟨(some 23), some (22, true), .mv (.t 7)⟩,
  ⟨(some 24), some (22, true), .mv (.t 8)⟩,
  ⟨(some 25), some (22, true), .mv (.t 6)⟩,
  ⟨(some 26), some (22, true), .bin .quo (.t 24) (.t 25)⟩,
  ⟨(some 27), some (22, true), .bin .gtr (.t 23) (.t 26)⟩,
  ⟨(some 28), none, .pick (.t 22) (.t 27) (.c (.bool false))⟩]
def r_ingotref1_Mul_6 : ICode := .region r_ingotref1_Mul_6_o [] [0, 1, 28]
@[go_sem] theorem r_ingotref1_Mul_6_u : go X (.c r_ingotref1_Mul_6 :: K) s = goR X r_ingotref1_Mul_6_o [0, 1, 28] K s := go_region _ _
@[go_sem] def r_ingotref1_Mul_7_o : List IOper := [
  ⟨(some 4), none, .asg (.c (.int .i64 0))⟩,
  ⟨(some 5), none, .asg (.c (.bool false))⟩]
def r_ingotref1_Mul_7 : ICode := .region r_ingotref1_Mul_7_o [] [4, 5]
@[go_sem] theorem r_ingotref1_Mul_7_u : go X (.c r_ingotref1_Mul_7 :: K) s = goR X r_ingotref1_Mul_7_o [4, 5] K s := go_region _ _
@[go_sem] def r_ingotref1_Mul_8_o : List IOper := [
  ⟨(some 29), none, .mv (.t 0)⟩,
  ⟨(some 30), none, .mv (.t 1)⟩,
  ⟨(some 31), none, .bin .mul (.t 29) (.t 30)⟩,
  ⟨(some 4), none, .asg (.t 31)⟩,
  ⟨(some 5), none, .asg (.c (.bool true))⟩]
def r_ingotref1_Mul_8 : ICode := .region r_ingotref1_Mul_8_o [] [4, 5]
@[go_sem] theorem r_ingotref1_Mul_8_u : go X (.c r_ingotref1_Mul_8 :: K) s = goR X r_ingotref1_Mul_8_o [4, 5] K s := go_region _ _
def c_ingotref1_Mul : ICode := (.seq r_ingotref1_Mul_0 (.seq r_ingotref1_Mul_1 (.seq r_ingotref1_Mul_2 (.seq r_ingotref1_Mul_3 (.seq (.seq r_ingotref1_Mul_4 (.cond (.t 17) r_ingotref1_Mul_5 .skip)) (.seq r_ingotref1_Mul_6 (.cond (.t 28) (.seq r_ingotref1_Mul_7 .ret) (.seq r_ingotref1_Mul_8 .ret))))))))
def i_ingotref1_Mul : IFunc := ⟨2, [.t 4, .t 5], c_ingotref1_Mul⟩
def a_ingotref1_Mul : Advice := ⟨[], [(8, [4, 5]), (7, [4, 5]), (6, [0, 1, 28]), (5, [0, 1, 6, 7, 8]), (4, [0, 1, 6, 7, 8, 17]), (3, [0, 1, 6, 7, 8]), (2, [0, 1, 6, 7]), (1, [0, 1, 6]), (0, [0, 1])], [], [], []⟩
/-! ingot/ingotref11.Parse -/
@[go_sem] def r_ingotref11_Parse_0_o : List IOper := [
  ⟨(some 4), none, .asg (.c (.int .i64 0))⟩,
  ⟨(some 5), none, .asg (.c (.int .i64 0))⟩]
def r_ingotref11_Parse_0 : ICode := .region r_ingotref11_Parse_0_o [] [0, 1]
@[go_sem] theorem r_ingotref11_Parse_0_u : go X (.c r_ingotref11_Parse_0 :: K) s = goR X r_ingotref11_Parse_0_o [0, 1] K s := go_region _ _
@[go_sem] def r_ingotref11_Parse_1_o : List IOper := [
  ⟨(some 6), none, .asg (.c (.bool false))⟩]
def r_ingotref11_Parse_1 : ICode := .region r_ingotref11_Parse_1_o [] [0, 1, 6]
@[go_sem] theorem r_ingotref11_Parse_1_u : go X (.c r_ingotref11_Parse_1 :: K) s = goR X r_ingotref11_Parse_1_o [0, 1, 6] K s := go_region _ _
@[go_sem] def r_ingotref11_Parse_2_o : List IOper := [
  ⟨(some 18), none, .mv (.t 0)⟩,
  ⟨(some 19), none, .len true (.t 18)⟩,
  ⟨(some 20), none, .bin .gtr (.t 19) (.c (.int .i64 0))⟩,
  ⟨(some 21), none, .mv (.t 20)⟩,
  ⟨(some 22), some (21, true), .mv (.t 0)⟩,
  ⟨(some 23), some (21, true), .idxS (.t 22) (.c (.int .i64 0))⟩,
  ⟨(some 24), some (21, true), .bin .eql (.t 23) (.c (.int .u8 45))⟩,
  ⟨(some 25), none, .pick (.t 21) (.t 24) (.c (.bool false))⟩]
def r_ingotref11_Parse_2 : ICode := .region r_ingotref11_Parse_2_o [] [0, 1, 6, 25]
@[go_sem] theorem r_ingotref11_Parse_2_u : go X (.c r_ingotref11_Parse_2 :: K) s = goR X r_ingotref11_Parse_2_o [0, 1, 6, 25] K s := go_region _ _
@[go_sem] def r_ingotref11_Parse_3_o : List IOper := [
  ⟨(some 6), none, .asg (.c (.bool true))⟩]
def r_ingotref11_Parse_3 : ICode := .region r_ingotref11_Parse_3_o [] [0, 1, 6]
@[go_sem] theorem r_ingotref11_Parse_3_u : go X (.c r_ingotref11_Parse_3 :: K) s = goR X r_ingotref11_Parse_3_o [0, 1, 6] K s := go_region _ _
@[go_sem] def r_ingotref11_Parse_4_o : List IOper := [
  ⟨(some 26), none, .mv (.t 0)⟩,
  ⟨(some 27), none, .sliceS (.t 26) (some (.c (.int .i64 1))) none⟩,
  ⟨(some 0), none, .asg (.t 27)⟩]
def r_ingotref11_Parse_4 : ICode := .region r_ingotref11_Parse_4_o [] [0, 1, 6]
@[go_sem] theorem r_ingotref11_Parse_4_u : go X (.c r_ingotref11_Parse_4 :: K) s = goR X r_ingotref11_Parse_4_o [0, 1, 6] K s := go_region _ _
@[go_sem] def r_ingotref11_Parse_5_o : List IOper := [
  ⟨(some 7), none, .asg (.c (.int .i64 0))⟩]
def r_ingotref11_Parse_5 : ICode := .region r_ingotref11_Parse_5_o [] [0, 1, 6, 7]
@[go_sem] theorem r_ingotref11_Parse_5_u : go X (.c r_ingotref11_Parse_5 :: K) s = goR X r_ingotref11_Parse_5_o [0, 1, 6, 7] K s := go_region _ _
@[go_sem] def r_ingotref11_Parse_6_o : List IOper := [
  ⟨(some 8), none, .asg (.c (.int .i64 0))⟩]
def r_ingotref11_Parse_6 : ICode := .region r_ingotref11_Parse_6_o [] [0, 1, 6, 7, 8]
@[go_sem] theorem r_ingotref11_Parse_6_u : go X (.c r_ingotref11_Parse_6 :: K) s = goR X r_ingotref11_Parse_6_o [0, 1, 6, 7, 8] K s := go_region _ _
@[go_sem] def r_ingotref11_Parse_7_o : List IOper := [
  ⟨(some 9), none, .asg (.c (.bool false))⟩]
def r_ingotref11_Parse_7 : ICode := .region r_ingotref11_Parse_7_o [] [0, 1, 6, 7, 8, 9]
@[go_sem] theorem r_ingotref11_Parse_7_u : go X (.c r_ingotref11_Parse_7 :: K) s = goR X r_ingotref11_Parse_7_o [0, 1, 6, 7, 8, 9] K s := go_region _ _
@[go_sem] def r_ingotref11_Parse_8_o : List IOper := [
  ⟨(some 10), none, .asg (.c (.int .i64 0))⟩]
def r_ingotref11_Parse_8 : ICode := .region r_ingotref11_Parse_8_o [] [0, 1, 6, 7, 8, 9, 10]
@[go_sem] theorem r_ingotref11_Parse_8_u : go X (.c r_ingotref11_Parse_8 :: K) s = goR X r_ingotref11_Parse_8_o [0, 1, 6, 7, 8, 9, 10] K s := go_region _ _
@[go_sem] def r_ingotref11_Parse_9_o : List IOper := [
  ⟨(some 28), none, .mv (.t 10)⟩,
  ⟨(some 29), none, .mv (.t 0)⟩,
  ⟨(some 30), none, .len true (.t 29)⟩,
  ⟨(some 31), none, .bin .lss (.t 28) (.t 30)⟩]
def r_ingotref11_Parse_9 : ICode := .region r_ingotref11_Parse_9_o [] [0, 1, 6, 7, 8, 9, 10, 31]
@[go_sem] theorem r_ingotref11_Parse_9_u : go X (.c r_ingotref11_Parse_9 :: K) s = goR X r_ingotref11_Parse_9_o [0, 1, 6, 7, 8, 9, 10, 31] K s := go_region _ _
@[go_sem] def r_ingotref11_Parse_10_o : List IOper := [
  ⟨(some 37), none, .mv (.t 0)⟩,
  ⟨(some 38), none, .mv (.t 10)⟩,
  ⟨(some 39), none, .idxS (.t 37) (.t 38)⟩,
  ⟨(some 40), none, .bin .eql (.t 39) (.c (.int .u8 46))⟩,
  ⟨(some 41), none, .mv (.t 40)⟩,
  ⟨(some 42), some (41, true), .mv (.t 9)⟩,
  ⟨(some 43), some (41, true), .un .not (.t 42)⟩,
  ⟨(some 44), none, .pick (.t 41) (.t 43) (.c (.bool false))⟩,
  ⟨(some 36), none, .asg (.t 44)⟩]
def r_ingotref11_Parse_10 : ICode := .region r_ingotref11_Parse_10_o [] [0, 1, 6, 7, 8, 9, 10, 36]
@[go_sem] theorem r_ingotref11_Parse_10_u : go X (.c r_ingotref11_Parse_10 :: K) s = goR X r_ingotref11_Parse_10_o [0, 1, 6, 7, 8, 9, 10, 36] K s := go_region _ _
@[go_sem] def r_ingotref11_Parse_11_o : List IOper := [
  ⟨(some 9), none, .asg (.c (.bool true))⟩]
def r_ingotref11_Parse_11 : ICode := .region r_ingotref11_Parse_11_o [] [0, 1, 6, 7, 8, 9, 10]
@[go_sem] theorem r_ingotref11_Parse_11_u : go X (.c r_ingotref11_Parse_11 :: K) s = goR X r_ingotref11_Parse_11_o [0, 1, 6, 7, 8, 9, 10] K s := go_region _ _
@[go_sem] def r_ingotref11_Parse_12_o : List IOper := [
  ⟨(some 46), none, .mv (.t 0)⟩,
  ⟨(some 47), none, .mv (.t 10)⟩,
  ⟨(some 48), none, .idxS (.t 46) (.t 47)⟩,
  ⟨(some 49), none, .bin .lss (.t 48) (.c (.int .u8 48))⟩,
  ⟨(some 50), none, .mv (.t 49)⟩,
  ⟨(some 51), some (50, false), .mv (.t 0)⟩,
  ⟨(some 52), some (50, false), .mv (.t 10)⟩,
  ⟨(some 53), some (50, false), .idxS (.t 51) (.t 52)⟩,
  ⟨(some 54), some (50, false), .bin .gtr (.t 53) (.c (.int .u8 57))⟩,
  ⟨(some 55), none, .pick (.t 50) (.c (.bool true)) (.t 54)⟩,
  ⟨(some 45), none, .asg (.t 55)⟩]
def r_ingotref11_Parse_12 : ICode := .region r_ingotref11_Parse_12_o [] [0, 1, 6, 7, 8, 9, 10, 45]
@[go_sem] theorem r_ingotref11_Parse_12_u : go X (.c r_ingotref11_Parse_12 :: K) s = goR X r_ingotref11_Parse_12_o [0, 1, 6, 7, 8, 9, 10, 45] K s := go_region _ _
@[go_sem] def r_ingotref11_Parse_13_o : List IOper := [
  ⟨(some 4), none, .asg (.c (.int .i64 0))⟩,
  ⟨(some 5), none, .asg (.c (.int .i64 2))⟩]
def r_ingotref11_Parse_13 : ICode := .region r_ingotref11_Parse_13_o [] [4, 5]
@[go_sem] theorem r_ingotref11_Parse_13_u : go X (.c r_ingotref11_Parse_13 :: K) s = goR X r_ingotref11_Parse_13_o [4, 5] K s := go_region _ _
@[go_sem] def r_ingotref11_Parse_14_o : List IOper := [
  ⟨(some 57), none, .mv (.t 9)⟩,
  ⟨(some 56), none, .asg (.t 57)⟩]
def r_ingotref11_Parse_14 : ICode := .region r_ingotref11_Parse_14_o [] [0, 1, 6, 7, 8, 9, 10, 56]
@[go_sem] theorem r_ingotref11_Parse_14_u : go X (.c r_ingotref11_Parse_14 :: K) s = goR X r_ingotref11_Parse_14_o [0, 1, 6, 7, 8, 9, 10, 56] K s := go_region _ _
@[go_sem] def r_ingotref11_Parse_15_o : List IOper := [
  ⟨(some 58), none, .mv (.t 8)⟩,
  ⟨(some 59), none, .bin .add (.t 58) (.c (.int .i64 1))⟩,
  ⟨(some 8), none, .asg (.t 59)⟩]
def r_ingotref11_Parse_15 : ICode := .region r_ingotref11_Parse_15_o [] [0, 1, 6, 7, 8, 9, 10]
@[go_sem] theorem r_ingotref11_Parse_15_u : go X (.c r_ingotref11_Parse_15 :: K) s = goR X r_ingotref11_Parse_15_o [0, 1, 6, 7, 8, 9, 10] K s := go_region _ _
@[go_sem] def r_ingotref11_Parse_16_o : List IOper := [
  ⟨(some 34), none, .mv (.t 7)⟩,
  ⟨(some 35), none, .bin .add (.t 34) (.c (.int .i64 1))⟩,
  ⟨(some 7), none, .asg (.t 35)⟩]
def r_ingotref11_Parse_16 : ICode := .region r_ingotref11_Parse_16_o [] [0, 1, 6, 7, 8, 9, 10]
@[go_sem] theorem r_ingotref11_Parse_16_u : go X (.c r_ingotref11_Parse_16 :: K) s = goR X r_ingotref11_Parse_16_o [0, 1, 6, 7, 8, 9, 10] K s := go_region _ _
@[go_sem] def r_ingotref11_Parse_17_o : List IOper := [
  ⟨(some 32), none, .mv (.t 10)⟩,
  ⟨(some 33), none, .bin .add (.t 32) (.c (.int .i64 1))⟩,
  ⟨(some 10), none, .asg (.t 33)⟩]
def r_ingotref11_Parse_17 : ICode := .region r_ingotref11_Parse_17_o [] [0, 1, 6, 7, 8, 9, 10]
@[go_sem] theorem r_ingotref11_Parse_17_u : go X (.c r_ingotref11_Parse_17 :: K) s = goR X r_ingotref11_Parse_17_o [0, 1, 6, 7, 8, 9, 10] K s := go_region _ _
def b_ingotref11_Parse_18 : ICode := (.seq (.seq r_ingotref11_Parse_9 (.cond (.t 31) .skip (.exit 0))) (.seq (.block 1 (.block 2 (.seq r_ingotref11_Parse_10 (.cond (.t 36) r_ingotref11_Parse_11 (.seq r_ingotref11_Parse_12 (.cond (.t 45) (.seq r_ingotref11_Parse_13 .ret) (.seq r_ingotref11_Parse_14 (.cond (.t 56) r_ingotref11_Parse_15 r_ingotref11_Parse_16)))))))) r_ingotref11_Parse_17))
@[go_sem] theorem b_ingotref11_Parse_18_u : go X (.c b_ingotref11_Parse_18 :: K) s = go X (.c (.seq (.seq r_ingotref11_Parse_9 (.cond (.t 31) .skip (.exit 0))) (.seq (.block 1 (.block 2 (.seq r_ingotref11_Parse_10 (.cond (.t 36) r_ingotref11_Parse_11 (.seq r_ingotref11_Parse_12 (.cond (.t 45) (.seq r_ingotref11_Parse_13 .ret) (.seq r_ingotref11_Parse_14 (.cond (.t 56) r_ingotref11_Parse_15 r_ingotref11_Parse_16)))))))) r_ingotref11_Parse_17)) :: K) s := rfl
@[go_sem] def r_ingotref11_Parse_19_o : List IOper := [
  ⟨(some 60), none, .mv (.t 7)⟩,
  ⟨(some 61), none, .bin .eql (.t 60) (.c (.int .i64 0))⟩,
  ⟨(some 62), none, .mv (.t 61)⟩,
  ⟨(some 63), some (62, false), .mv (.t 9)⟩,
  ⟨(some 64), some (62, false), .mv (.t 63)⟩,
  ⟨(some 65), some (64, true), .mv (.t 8)⟩,
  ⟨(some 66), some (64, true), .bin .eql (.t 65) (.c (.int .i64 0))⟩,
  ⟨(some 67), some (62, false), .pick (.t 64) (.t 66) (.c (.bool false))⟩,
  ⟨(some 68), none, .pick (.t 62) (.c (.bool true)) (.t 67)⟩]
def r_ingotref11_Parse_19 : ICode := .region r_ingotref11_Parse_19_o [] [0, 1, 6, 8, 68]
@[go_sem] theorem r_ingotref11_Parse_19_u : go X (.c r_ingotref11_Parse_19 :: K) s = goR X r_ingotref11_Parse_19_o [0, 1, 6, 8, 68] K s := go_region _ _
@[go_sem] def r_ingotref11_Parse_20_o : List IOper := [
  ⟨(some 4), none, .asg (.c (.int .i64 0))⟩,
  ⟨(some 5), none, .asg (.c (.int .i64 2))⟩]
def r_ingotref11_Parse_20 : ICode := .region r_ingotref11_Parse_20_o [] [4, 5]
@[go_sem] theorem r_ingotref11_Parse_20_u : go X (.c r_ingotref11_Parse_20 :: K) s = goR X r_ingotref11_Parse_20_o [4, 5] K s := go_region _ _
@[go_sem] def r_ingotref11_Parse_21_o : List IOper := [
  ⟨(some 69), none, .mv (.t 8)⟩,
  ⟨(some 70), none, .mv (.t 1)⟩,
  ⟨(some 71), none, .bin .gtr (.t 69) (.t 70)⟩]
def r_ingotref11_Parse_21 : ICode := .region r_ingotref11_Parse_21_o [] [0, 1, 6, 8, 71]
@[go_sem] theorem r_ingotref11_Parse_21_u : go X (.c r_ingotref11_Parse_21 :: K) s = goR X r_ingotref11_Parse_21_o [0, 1, 6, 8, 71] K s := go_region _ _
@[go_sem] def r_ingotref11_Parse_22_o : List IOper := [
  ⟨(some 4), none, .asg (.c (.int .i64 0))⟩,
  ⟨(some 5), none, .asg (.c (.int .i64 4))⟩]
def r_ingotref11_Parse_22 : ICode := .region r_ingotref11_Parse_22_o [] [4, 5]
@[go_sem] theorem r_ingotref11_Parse_22_u : go X (.c r_ingotref11_Parse_22 :: K) s = goR X r_ingotref11_Parse_22_o [4, 5] K s := go_region _ _
@[go_sem] def r_ingotref11_Parse_23_o : List IOper := [
  ⟨(some 11), none, .asg (.c (.int .i64 0))⟩]
def r_ingotref11_Parse_23 : ICode := .region r_ingotref11_Parse_23_o [] [0, 1, 6, 8, 11]
@[go_sem] theorem r_ingotref11_Parse_23_u : go X (.c r_ingotref11_Parse_23 :: K) s = goR X r_ingotref11_Parse_23_o [0, 1, 6, 8, 11] K s := go_region _ _
@[go_sem] def r_ingotref11_Parse_24_o : List IOper := [
  ⟨(some 12), none, .asg (.c (.int .i64 0))⟩]
def r_ingotref11_Parse_24 : ICode := .region r_ingotref11_Parse_24_o [] [0, 1, 6, 8, 11, 12]
@[go_sem] theorem r_ingotref11_Parse_24_u : go X (.c r_ingotref11_Parse_24 :: K) s = goR X r_ingotref11_Parse_24_o [0, 1, 6, 8, 11, 12] K s := go_region _ _
@[go_sem] def r_ingotref11_Parse_25_o : List IOper := [
  ⟨(some 72), none, .mv (.t 12)⟩,
  ⟨(some 73), none, .mv (.t 0)⟩,
  ⟨(some 74), none, .len true (.t 73)⟩,
  ⟨(some 75), none, .mv (.t 1)⟩,
  ⟨(some 76), none, .bin .add (.t 74) (.t 75)⟩,
  ⟨(some 77), none, .mv (.t 8)⟩,
  ⟨(some 78), none, .bin .sub (.t 76) (.t 77)⟩,
  ⟨(some 79), none, .bin .lss (.t 72) (.t 78)⟩]
def r_ingotref11_Parse_25 : ICode := .region r_ingotref11_Parse_25_o [] [0, 1, 6, 8, 11, 12, 79]
@[go_sem] theorem r_ingotref11_Parse_25_u : go X (.c r_ingotref11_Parse_25 :: K) s = goR X r_ingotref11_Parse_25_o [0, 1, 6, 8, 11, 12, 79] K s := go_region _ _
@[go_sem] def r_ingotref11_Parse_26_o : List IOper := [
  ⟨(some 13), none, .asg (.c (.int .i64 0))⟩]
def r_ingotref11_Parse_26 : ICode := .region r_ingotref11_Parse_26_o [] [0, 1, 6, 8, 11, 12, 13]
@[go_sem] theorem r_ingotref11_Parse_26_u : go X (.c r_ingotref11_Parse_26 :: K) s = goR X r_ingotref11_Parse_26_o [0, 1, 6, 8, 11, 12, 13] K s := go_region _ _
@[go_sem] def r_ingotref11_Parse_27_o : List IOper := [
  ⟨(some 82), none, .mv (.t 12)⟩,
  ⟨(some 83), none, .mv (.t 0)⟩,
  ⟨(some 84), none, .len true (.t 83)⟩,
  ⟨(some 85), none, .bin .lss (.t 82) (.t 84)⟩]
def r_ingotref11_Parse_27 : ICode := .region r_ingotref11_Parse_27_o [] [0, 1, 6, 8, 11, 12, 13, 85]
@[go_sem] theorem r_ingotref11_Parse_27_u : go X (.c r_ingotref11_Parse_27 :: K) s = goR X r_ingotref11_Parse_27_o [0, 1, 6, 8, 11, 12, 13, 85] K s := go_region _ _
@[go_sem] def r_ingotref11_Parse_28_o : List IOper := [
  ⟨(some 86), none, .mv (.t 0)⟩,
  ⟨(some 87), none, .mv (.t 12)⟩,
  ⟨(some 88), none, .idxS (.t 86) (.t 87)⟩,
  ⟨(some 89), none, .bin .eql (.t 88) (.c (.int .u8 46))⟩]
def r_ingotref11_Parse_28 : ICode := .region r_ingotref11_Parse_28_o [] [0, 1, 6, 8, 11, 12, 89]
@[go_sem] theorem r_ingotref11_Parse_28_u : go X (.c r_ingotref11_Parse_28 :: K) s = goR X r_ingotref11_Parse_28_o [0, 1, 6, 8, 11, 12, 89] K s := go_region _ _
@[go_sem] def r_ingotref11_Parse_29_o : List IOper := [
  ⟨(some 90), none, .mv (.t 0)⟩,
  ⟨(some 91), none, .mv (.t 12)⟩,
  ⟨(some 92), none, .idxS (.t 90) (.t 91)⟩,
  ⟨(some 93), none, .bin .sub (.t 92) (.c (.int .u8 48))⟩,
  ⟨(some 94), none, .cvInt .i64 (.t 93)⟩,
  ⟨(some 13), none, .asg (.t 94)⟩]
def r_ingotref11_Parse_29 : ICode := .region r_ingotref11_Parse_29_o [] [0, 1, 6, 8, 11, 12, 13]
@[go_sem] theorem r_ingotref11_Parse_29_u : go X (.c r_ingotref11_Parse_29 :: K) s = goR X r_ingotref11_Parse_29_o [0, 1, 6, 8, 11, 12, 13] K s := go_region _ _
@[go_sem] def r_ingotref11_Parse_30_o : List IOper := [
  ⟨(some 96), none, .mv (.t 11)⟩,
  ⟨(some 97), none, .call false n_ingotref1_Mul [(.t 96), (.c (.int .i64 10))]⟩,
  ⟨(some 95), none, .mv (.t 97)⟩,
  ⟨(some 98), none, .ext (.t 95) 0⟩,
  ⟨(some 99), none, .ext (.t 95) 1⟩,
  ⟨(some 14), none, .asg (.t 98)⟩,
  ⟨(some 15), none, .asg (.t 99)⟩]
def r_ingotref11_Parse_30 : ICode := .region r_ingotref11_Parse_30_o [] [0, 1, 6, 8, 12, 13, 14, 15]
@[go_sem] theorem r_ingotref11_Parse_30_u : go X (.c r_ingotref11_Parse_30 :: K) s = goR X r_ingotref11_Parse_30_o [0, 1, 6, 8, 12, 13, 14, 15] K s := go_region _ _
@[go_sem] def r_ingotref11_Parse_31_o : List IOper := [
  ⟨(some 100), none, .mv (.t 6)⟩]
def r_ingotref11_Parse_31 : ICode := .region r_ingotref11_Parse_31_o [] [0, 1, 6, 8, 12, 13, 14, 15, 100]
@[go_sem] theorem r_ingotref11_Parse_31_u : go X (.c r_ingotref11_Parse_31 :: K) s = goR X r_ingotref11_Parse_31_o [0, 1, 6, 8, 12, 13, 14, 15, 100] K s := go_region _ _
@[go_sem] def r_ingotref11_Parse_32_o : List IOper := [
  ⟨(some 101), none, .mv (.t 13)⟩,
  ⟨(some 102), none, .bin .sub (.c (.int .i64 0)) (.t 101)⟩,
  ⟨(some 13), none, .asg (.t 102)⟩]
def r_ingotref11_Parse_32 : ICode := .region r_ingotref11_Parse_32_o [] [0, 1, 6, 8, 12, 13, 14, 15]
@[go_sem] theorem r_ingotref11_Parse_32_u : go X (.c r_ingotref11_Parse_32 :: K) s = goR X r_ingotref11_Parse_32_o [0, 1, 6, 8, 12, 13, 14, 15] K s := go_region _ _
@[go_sem] def r_ingotref11_Parse_33_o : List IOper := [
  ⟨(some 104), none, .mv (.t 14)⟩,
  ⟨(some 105), none, .mv (.t 13)⟩,
  ⟨(some 106), none, .call false n_ingotref1_Add [(.t 104), (.t 105)]⟩,
  ⟨(some 103), none, .mv (.t 106)⟩,
  ⟨(some 107), none, .ext (.t 103) 0⟩,
  ⟨(some 108), none, .ext (.t 103) 1⟩,
  ⟨(some 16), none, .asg (.t 107)⟩,
  ⟨(some 17), none, .asg (.t 108)⟩]
def r_ingotref11_Parse_33 : ICode := .region r_ingotref11_Parse_33_o [] [0, 1, 6, 8, 12, 15, 16, 17]
@[go_sem] theorem r_ingotref11_Parse_33_u : go X (.c r_ingotref11_Parse_33 :: K) s = goR X r_ingotref11_Parse_33_o [0, 1, 6, 8, 12, 15, 16, 17] K s := go_region _ _
@[go_sem] def r_ingotref11_Parse_34_o : List IOper := [
  ⟨(some 109), none, .mv (.t 15)⟩,
  ⟨(some 110), none, .un .not (.t 109)⟩,
  ⟨(some 111), none, .mv (.t 110)⟩,
  ⟨(some 112), some (111, false), .mv (.t 17)⟩,
  ⟨(some 113), some (111, false), .un .not (.t 112)⟩,
  ⟨(some 114), none, .pick (.t 111) (.c (.bool true)) (.t 113)⟩]
def r_ingotref11_Parse_34 : ICode := .region r_ingotref11_Parse_34_o [] [0, 1, 6, 8, 12, 16, 114]
@[go_sem] theorem r_ingotref11_Parse_34_u : go X (.c r_ingotref11_Parse_34 :: K) s = goR X r_ingotref11_Parse_34_o [0, 1, 6, 8, 12, 16, 114] K s := go_region _ _
@[go_sem] def r_ingotref11_Parse_35_o : List IOper := [
  ⟨(some 4), none, .asg (.c (.int .i64 0))⟩,
  ⟨(some 5), none, .asg (.c (.int .i64 4))⟩]
def r_ingotref11_Parse_35 : ICode := .region r_ingotref11_Parse_35_o [] [4, 5]
@[go_sem] theorem r_ingotref11_Parse_35_u : go X (.c r_ingotref11_Parse_35 :: K) s = goR X r_ingotref11_Parse_35_o [4, 5] K s := go_region _ _
@[go_sem] def r_ingotref11_Parse_36_o : List IOper := [
  ⟨(some 115), none, .mv (.t 16)⟩,
  ⟨(some 11), none, .asg (.t 115)⟩]
def r_ingotref11_Parse_36 : ICode := .region r_ingotref11_Parse_36_o [] [0, 1, 6, 8, 11, 12]
@[go_sem] theorem r_ingotref11_Parse_36_u : go X (.c r_ingotref11_Parse_36 :: K) s = goR X r_ingotref11_Parse_36_o [0, 1, 6, 8, 11, 12] K s := go_region _ _
@[go_sem] def r_ingotref11_Parse_37_o : List IOper := [
  ⟨(some 80), none, .mv (.t 12)⟩,
  ⟨(some 81), none, .bin .add (.t 80) (.c (.int .i64 1))⟩,
  ⟨(some 12), none, .asg (.t 81)⟩]
def r_ingotref11_Parse_37 : ICode := .region r_ingotref11_Parse_37_o [] [0, 1, 6, 8, 11, 12]
@[go_sem] theorem r_ingotref11_Parse_37_u : go X (.c r_ingotref11_Parse_37 :: K) s = goR X r_ingotref11_Parse_37_o [0, 1, 6, 8, 11, 12] K s := go_region _ _
def b_ingotref11_Parse_38 : ICode := (.seq (.seq r_ingotref11_Parse_25 (.cond (.t 79) .skip (.exit 3))) (.seq (.block 4 (.seq r_ingotref11_Parse_26 (.seq (.seq r_ingotref11_Parse_27 (.cond (.t 85) (.seq (.seq r_ingotref11_Parse_28 (.cond (.t 89) (.exit 4) .skip)) r_ingotref11_Parse_29) .skip)) (.seq r_ingotref11_Parse_30 (.seq (.seq r_ingotref11_Parse_31 (.cond (.t 100) r_ingotref11_Parse_32 .skip)) (.seq r_ingotref11_Parse_33 (.seq (.seq r_ingotref11_Parse_34 (.cond (.t 114) (.seq r_ingotref11_Parse_35 .ret) .skip)) r_ingotref11_Parse_36))))))) r_ingotref11_Parse_37))
@[go_sem] theorem b_ingotref11_Parse_38_u : go X (.c b_ingotref11_Parse_38 :: K) s = go X (.c (.seq (.seq r_ingotref11_Parse_25 (.cond (.t 79) .skip (.exit 3))) (.seq (.block 4 (.seq r_ingotref11_Parse_26 (.seq (.seq r_ingotref11_Parse_27 (.cond (.t 85) (.seq (.seq r_ingotref11_Parse_28 (.cond (.t 89) (.exit 4) .skip)) r_ingotref11_Parse_29) .skip)) (.seq r_ingotref11_Parse_30 (.seq (.seq r_ingotref11_Parse_31 (.cond (.t 100) r_ingotref11_Parse_32 .skip)) (.seq r_ingotref11_Parse_33 (.seq (.seq r_ingotref11_Parse_34 (.cond (.t 114) (.seq r_ingotref11_Parse_35 .ret) .skip)) r_ingotref11_Parse_36))))))) r_ingotref11_Parse_37)) :: K) s := rfl
@[go_sem] def r_ingotref11_Parse_39_o : List IOper := [
  ⟨(some 116), none, .mv (.t 11)⟩,
  ⟨(some 4), none, .asg (.t 116)⟩,
  ⟨(some 5), none, .asg (.c (.int .i64 0))⟩]
def r_ingotref11_Parse_39 : ICode := .region r_ingotref11_Parse_39_o [] [4, 5]
@[go_sem] theorem r_ingotref11_Parse_39_u : go X (.c r_ingotref11_Parse_39 :: K) s = goR X r_ingotref11_Parse_39_o [4, 5] K s := go_region _ _
def c_ingotref11_Parse : ICode := (.seq r_ingotref11_Parse_0 (.seq r_ingotref11_Parse_1 (.seq (.seq r_ingotref11_Parse_2 (.cond (.t 25) (.seq r_ingotref11_Parse_3 r_ingotref11_Parse_4) .skip)) (.seq r_ingotref11_Parse_5 (.seq r_ingotref11_Parse_6 (.seq r_ingotref11_Parse_7 (.seq (.seq r_ingotref11_Parse_8 (.block 0 (.loop b_ingotref11_Parse_18))) (.seq r_ingotref11_Parse_19 (.cond (.t 68) (.seq r_ingotref11_Parse_20 .ret) (.seq r_ingotref11_Parse_21 (.cond (.t 71) (.seq r_ingotref11_Parse_22 .ret) (.seq r_ingotref11_Parse_23 (.seq (.seq r_ingotref11_Parse_24 (.block 3 (.loop b_ingotref11_Parse_38))) (.seq r_ingotref11_Parse_39 .ret))))))))))))))
def i_ingotref11_Parse : IFunc := ⟨2, [.t 4, .t 5], c_ingotref11_Parse⟩
def a_ingotref11_Parse : Advice := ⟨[], [(37, [4, 5]), (25, [0, 1, 6, 8, 11, 12]), (36, [0, 1, 6, 8, 11, 12]), (35, [4, 5]), (34, [0, 1, 6, 8, 12, 16, 114]), (33, [0, 1, 6, 8, 12, 15, 16, 17]), (32, [0, 1, 6, 8, 12, 13, 14, 15]), (31, [0, 1, 6, 8, 12, 13, 14, 15, 100]), (30, [0, 1, 6, 8, 12, 13, 14, 15]), (29, [0, 1, 6, 8, 11, 12, 13]), (28, [0, 1, 6, 8, 11, 12, 89]), (27, [0, 1, 6, 8, 11, 12, 13, 85]), (26, [0, 1, 6, 8, 11, 12, 13]), (24, [0, 1, 6, 8, 11, 12, 79]), (23, [0, 1, 6, 8, 11, 12]), (22, [0, 1, 6, 8, 11]), (21, [4, 5]), (20, [0, 1, 6, 8, 71]), (19, [4, 5]), (18, [0, 1, 6, 8, 68]), (10, [0, 1, 6, 7, 8, 9, 10]), (13, [0, 1, 6, 7, 8, 9, 10]), (15, [4, 5]), (17, [0, 1, 6, 7, 8, 9, 10]), (11, [0, 1, 6, 7, 8, 9, 10]), (16, [0, 1, 6, 7, 8, 9, 10, 56]), (14, [0, 1, 6, 7, 8, 9, 10, 45]), (12, [0, 1, 6, 7, 8, 9, 10, 36]), (9, [0, 1, 6, 7, 8, 9, 10, 31]), (8, [0, 1, 6, 7, 8, 9, 10]), (7, [0, 1, 6, 7, 8, 9]), (6, [0, 1, 6, 7, 8]), (5, [0, 1, 6, 7]), (4, [0, 1, 6]), (3, [0, 1, 6]), (2, [0, 1, 6, 25]), (1, [0, 1, 6]), (0, [0, 1])], [], [], []⟩
/-! ingot/ingotlaw11.scale -/
@[go_sem] def r_ingotlaw11_scale_0_o : List IOper := [
  ⟨(some 2), none, .asg (.c (.bool false))⟩]
def r_ingotlaw11_scale_0 : ICode := .region r_ingotlaw11_scale_0_o [] [0]
@[go_sem] theorem r_ingotlaw11_scale_0_u : go X (.c r_ingotlaw11_scale_0 :: K) s = goR X r_ingotlaw11_scale_0_o [0] K s := go_region _ _
@[go_sem] def r_ingotlaw11_scale_1_o : List IOper := [
  ⟨(some 3), none, .mv (.t 0)⟩,
  ⟨(some 4), none, .bin .geq (.t 3) (.c (.int .i64 0))⟩,
  ⟨(some 5), none, .mv (.t 4)⟩,
  ⟨(some 6), some (5, true), .mv (.t 0)⟩,
  ⟨(some 7), some (5, true), .bin .leq (.t 6) (.c (.int .i64 18))⟩,
  ⟨(some 8), none, .pick (.t 5) (.t 7) (.c (.bool false))⟩,
  ⟨(some 2), none, .asg (.t 8)⟩]
def r_ingotlaw11_scale_1 : ICode := .region r_ingotlaw11_scale_1_o [] [2]
@[go_sem] theorem r_ingotlaw11_scale_1_u : go X (.c r_ingotlaw11_scale_1 :: K) s = goR X r_ingotlaw11_scale_1_o [2] K s := go_region _ _
def c_ingotlaw11_scale : ICode := (.seq r_ingotlaw11_scale_0 (.seq r_ingotlaw11_scale_1 .ret))
def i_ingotlaw11_scale : IFunc := ⟨1, [.t 2], c_ingotlaw11_scale⟩
def a_ingotlaw11_scale : Advice := ⟨[], [(1, [2]), (0, [0])], [], [], []⟩
/-! ingot/ingotlaw11.DeciTexts -/
@[go_sem] def r_ingotlaw11_DeciTexts_0_o : List IOper := [
  ⟨(some 6), none, .asg (.c (.bool false))⟩]
def r_ingotlaw11_DeciTexts_0 : ICode := .region r_ingotlaw11_DeciTexts_0_o [] [0, 1, 2]
@[go_sem] theorem r_ingotlaw11_DeciTexts_0_u : go X (.c r_ingotlaw11_DeciTexts_0 :: K) s = goR X r_ingotlaw11_DeciTexts_0_o [0, 1, 2] K s := go_region _ _
@[go_sem] def r_ingotlaw11_DeciTexts_1_o : List IOper := [
  ⟨(some 14), none, .call false n_ingotlaw11_known []⟩,
  ⟨(some 15), none, .un .not (.t 14)⟩]
def r_ingotlaw11_DeciTexts_1 : ICode := .region r_ingotlaw11_DeciTexts_1_o [] [0, 1, 2, 15]
@[go_sem] theorem r_ingotlaw11_DeciTexts_1_u : go X (.c r_ingotlaw11_DeciTexts_1 :: K) s = goR X r_ingotlaw11_DeciTexts_1_o [0, 1, 2, 15] K s := go_region _ _
@[go_sem] def r_ingotlaw11_DeciTexts_2_o : List IOper := [
  ⟨(some 6), none, .asg (.c (.bool false))⟩]
def r_ingotlaw11_DeciTexts_2 : ICode := .region r_ingotlaw11_DeciTexts_2_o [] [6]
@[go_sem] theorem r_ingotlaw11_DeciTexts_2_u : go X (.c r_ingotlaw11_DeciTexts_2 :: K) s = goR X r_ingotlaw11_DeciTexts_2_o [6] K s := go_region _ _
@[go_sem] def r_ingotlaw11_DeciTexts_3_o : List IOper := [
  ⟨(some 16), none, .mv (.t 1)⟩,
  ⟨(some 17), none, .call false n_ingotlaw11_scale [(.t 16)]⟩,
  ⟨(some 18), none, .un .not (.t 17)⟩,
  ⟨(some 19), none, .mv (.t 18)⟩,
  ⟨(some 20), some (19, false), .mv (.t 2)⟩,
  ⟨(some 21), some (19, false), .len true (.t 20)⟩,
  ⟨(some 22), some (19, false), .bin .gtr (.t 21) (.c (.int .i64 60))⟩,
  ⟨(some 23), none, .pick (.t 19) (.c (.bool true)) (.t 22)⟩]
def r_ingotlaw11_DeciTexts_3 : ICode := .region r_ingotlaw11_DeciTexts_3_o [] [0, 1, 2, 23]
@[go_sem] theorem r_ingotlaw11_DeciTexts_3_u : go X (.c r_ingotlaw11_DeciTexts_3 :: K) s = goR X r_ingotlaw11_DeciTexts_3_o [0, 1, 2, 23] K s := go_region _ _
@[go_sem] def r_ingotlaw11_DeciTexts_4_o : List IOper := [
  ⟨(some 6), none, .asg (.c (.bool true))⟩]
def r_ingotlaw11_DeciTexts_4 : ICode := .region r_ingotlaw11_DeciTexts_4_o [] [6]
@[go_sem] theorem r_ingotlaw11_DeciTexts_4_u : go X (.c r_ingotlaw11_DeciTexts_4 :: K) s = goR X r_ingotlaw11_DeciTexts_4_o [6] K s := go_region _ _
@[go_sem] def r_ingotlaw11_DeciTexts_5_o : List IOper := [
  ⟨(some 24), none, .mv (.t 0)⟩,
  ⟨(some 25), none, .mv (.t 1)⟩,
  ⟨(some 26), none, .call false n_deci_Text [(.t 24), (.t 25)]⟩,
  ⟨(some 7), none, .asg (.t 26)⟩]
def r_ingotlaw11_DeciTexts_5 : ICode := .region r_ingotlaw11_DeciTexts_5_o [] [0, 1, 2, 7]
@[go_sem] theorem r_ingotlaw11_DeciTexts_5_u : go X (.c r_ingotlaw11_DeciTexts_5 :: K) s = goR X r_ingotlaw11_DeciTexts_5_o [0, 1, 2, 7] K s := go_region _ _
@[go_sem] def r_ingotlaw11_DeciTexts_6_o : List IOper := [
  ⟨(some 28), none, .mv (.t 2)⟩,
  ⟨(some 29), none, .mv (.t 1)⟩,
  ⟨(some 30), none, .call false n_deci_Parse [(.t 28), (.t 29)]⟩,
  ⟨(some 27), none, .mv (.t 30)⟩,
  ⟨(some 31), none, .ext (.t 27) 0⟩,
  ⟨(some 32), none, .ext (.t 27) 1⟩,
  ⟨(some 8), none, .asg (.t 31)⟩,
  ⟨(some 9), none, .asg (.t 32)⟩]
def r_ingotlaw11_DeciTexts_6 : ICode := .region r_ingotlaw11_DeciTexts_6_o [] [0, 1, 2, 7, 8, 9]
@[go_sem] theorem r_ingotlaw11_DeciTexts_6_u : go X (.c r_ingotlaw11_DeciTexts_6 :: K) s = goR X r_ingotlaw11_DeciTexts_6_o [0, 1, 2, 7, 8, 9] K s := go_region _ _
@[go_sem] def r_ingotlaw11_DeciTexts_7_o : List IOper := [
  ⟨(some 34), none, .mv (.t 2)⟩,
  ⟨(some 35), none, .mv (.t 1)⟩,
  ⟨(some 36), none, .call false n_ingotref11_Parse [(.t 34), (.t 35)]⟩,
  ⟨(some 33), none, .mv (.t 36)⟩,
  ⟨(some 37), none, .ext (.t 33) 0⟩,
  ⟨(some 38), none, .ext (.t 33) 1⟩,
  ⟨(some 10), none, .asg (.t 37)⟩,
  ⟨(some 11), none, .asg (.t 38)⟩]
def r_ingotlaw11_DeciTexts_7 : ICode := .region r_ingotlaw11_DeciTexts_7_o [] [0, 1, 7, 8, 9, 10, 11]
@[go_sem] theorem r_ingotlaw11_DeciTexts_7_u : go X (.c r_ingotlaw11_DeciTexts_7 :: K) s = goR X r_ingotlaw11_DeciTexts_7_o [0, 1, 7, 8, 9, 10, 11] K s := go_region _ _
@[go_sem] def r_ingotlaw11_DeciTexts_8_o : List IOper := [
  ⟨(some 40), none, .mv (.t 7)⟩,
  ⟨(some 41), none, .mv (.t 1)⟩,
  ⟨(some 42), none, .call false n_deci_Parse [(.t 40), (.t 41)]⟩,
  ⟨(some 39), none, .mv (.t 42)⟩,
  ⟨(some 43), none, .ext (.t 39) 0⟩,
  ⟨(some 44), none, .ext (.t 39) 1⟩,
  ⟨(some 12), none, .asg (.t 43)⟩,
  ⟨(some 13), none, .asg (.t 44)⟩]
def r_ingotlaw11_DeciTexts_8 : ICode := .region r_ingotlaw11_DeciTexts_8_o [] [0, 1, 7, 8, 9, 10, 11, 12, 13]
@[go_sem] theorem r_ingotlaw11_DeciTexts_8_u : go X (.c r_ingotlaw11_DeciTexts_8 :: K) s = goR X r_ingotlaw11_DeciTexts_8_o [0, 1, 7, 8, 9, 10, 11, 12, 13] K s := go_region _ _
@[go_sem] def r_ingotlaw11_DeciTexts_9_o : List IOper := [
  ⟨(some 45), none, .mv (.t 7)⟩,
  ⟨(some 46), none, .mv (.t 0)⟩,
  ⟨(some 47), none, .mv (.t 1)⟩,
  ⟨(some 48), none, .call false n_ingotref11_Text [(.t 46), (.t 47)]⟩,
  ⟨(some 49), none, .bin .eql (.t 45) (.t 48)⟩,
  ⟨(some 50), none, .mv (.t 49)⟩,
  ⟨(some 51), some (50, true), .mv (.t 8)⟩,
  ⟨(some 52), some (50, true), .mv (.t 10)⟩,
  ⟨(some 53), some (50, true), .bin .eql (.t 51) (.t 52)⟩,
  ⟨(some 54), none, .pick (.t 50) (.t 53) (.c (.bool false))⟩,
  ⟨(some 55), none, .mv (.t 54)⟩,
  ⟨(some 56), some (55, true), .mv (.t 9)⟩,
  ⟨(some 57), some (55, true), .mv (.t 11)⟩,
  ⟨(some 58), some (55, true), .bin .eql (.t 56) (.t 57)⟩,
  ⟨(some 59), none, .pick (.t 55) (.t 58) (.c (.bool false))⟩,
  ⟨(some 60), none, .mv (.t 59)⟩,
  ⟨(some 61), some (60, true), .mv (.t 13)⟩,
  ⟨(some 62), some (60, true), .bin .eql (.t 61) (.c (.int .i64 0))⟩,
  ⟨(some 63), none, .pick (.t 60) (.t 62) (.c (.bool false))⟩,
  ⟨(some 64), none, .mv (.t 63)⟩,
  ⟨(some 65), some (64, true), .mv (.t 12)⟩,
  ⟨(some 66), some (64, true), .mv (.t 0)⟩,
  ⟨(some 67), some (64, true), .bin .eql (.t 65) (.t 66)⟩,
  ⟨(some 68), none, .pick (.t 64) (.t 67) (.c (.bool false))⟩,
  ⟨(some 69), none, .mv (.t 68)⟩,
  ⟨(some 70), some (69, true), .mv (.t 0)⟩,
  ⟨(some 71), some (69, true), .call false n_deci_Digits [(.t 70)]⟩,
  ⟨(some 72), some (69, true), .mv (.t 0)⟩,
  ⟨(some 73), some (69, true), .call false n_ingotref11_Digits [(.t 72)]⟩,
  ⟨(some 74), some (69, true), .bin .eql (.t 71) (.t 73)⟩,
  ⟨(some 75), none, .pick (.t 69) (.t 74) (.c (.bool false))⟩,
  ⟨(some 6), none, .asg (.t 75)⟩]
def r_ingotlaw11_DeciTexts_9 : ICode := .region r_ingotlaw11_DeciTexts_9_o [] [6]
@[go_sem] theorem r_ingotlaw11_DeciTexts_9_u : go X (.c r_ingotlaw11_DeciTexts_9 :: K) s = goR X r_ingotlaw11_DeciTexts_9_o [6] K s := go_region _ _
def c_ingotlaw11_DeciTexts : ICode := (.seq r_ingotlaw11_DeciTexts_0 (.seq r_ingotlaw11_DeciTexts_1 (.cond (.t 15) (.seq r_ingotlaw11_DeciTexts_2 .ret) (.seq r_ingotlaw11_DeciTexts_3 (.cond (.t 23) (.seq r_ingotlaw11_DeciTexts_4 .ret) (.seq r_ingotlaw11_DeciTexts_5 (.seq r_ingotlaw11_DeciTexts_6 (.seq r_ingotlaw11_DeciTexts_7 (.seq r_ingotlaw11_DeciTexts_8 (.seq r_ingotlaw11_DeciTexts_9 .ret))))))))))
def i_ingotlaw11_DeciTexts : IFunc := ⟨3, [.t 6], c_ingotlaw11_DeciTexts⟩
def a_ingotlaw11_DeciTexts : Advice := ⟨[], [(9, [6]), (8, [0, 1, 7, 8, 9, 10, 11, 12, 13]), (7, [0, 1, 7, 8, 9, 10, 11]), (6, [0, 1, 2, 7, 8, 9]), (5, [0, 1, 2, 7]), (4, [6]), (3, [0, 1, 2, 23]), (2, [6]), (1, [0, 1, 2, 15]), (0, [0, 1, 2])], [], [], []⟩
/-! ingot/ingotref1.PutVar -/
@[go_sem] def r_ingotref1_PutVar_0_o : List IOper := [
  ⟨(some 4), none, .asg (.c .nilS)⟩]
def r_ingotref1_PutVar_0 : ICode := .region r_ingotref1_PutVar_0_o [] [0, 1]
@[go_sem] theorem r_ingotref1_PutVar_0_u : go X (.c r_ingotref1_PutVar_0 :: K) s = goR X r_ingotref1_PutVar_0_o [0, 1] K s := go_region _ _
@[go_sem] def r_ingotref1_PutVar_1_o : List IOper := [
  ⟨(some 5), none, .mv (.t 1)⟩,
  ⟨(some 6), none, .bin .geq (.t 5) (.c (.int .u64 128))⟩]
def r_ingotref1_PutVar_1 : ICode := .region r_ingotref1_PutVar_1_o [] [0, 1, 6]
@[go_sem] theorem r_ingotref1_PutVar_1_u : go X (.c r_ingotref1_PutVar_1 :: K) s = goR X r_ingotref1_PutVar_1_o [0, 1, 6] K s := go_region _ _
@[go_sem] def r_ingotref1_PutVar_2_o : List IOper := [
  ⟨(some 7), none, .mv (.t 0)⟩,
  ⟨(some 8), none, .mv (.t 1)⟩,
  ⟨(some 9), none, .bin .and (.t 8) (.c (.int .u64 127))⟩,
  ⟨(some 10), none, .bin .or (.t 9) (.c (.int .u64 128))⟩,
  ⟨(some 11), none, .cvInt .u8 (.t 10)⟩,
  ⟨(some 12), none, .lit false 1 1 (.int .u8 0) [(0, (.t 11))]⟩,
  ⟨(some 13), none, .append 1 1 (.t 7) (.t 12)⟩,
  ⟨(some 0), none, .asg (.t 13)⟩]
def r_ingotref1_PutVar_2 : ICode := .region r_ingotref1_PutVar_2_o [] [0, 1]
@[go_sem] theorem r_ingotref1_PutVar_2_u : go X (.c r_ingotref1_PutVar_2 :: K) s = goR X r_ingotref1_PutVar_2_o [0, 1] K s := go_region _ _
@[go_sem] def r_ingotref1_PutVar_3_o : List IOper := [
  ⟨(some 14), none, .mv (.t 1)⟩,
  ⟨(some 15), none, .bin .shr (.t 14) (.c (.int .u64 7))⟩,
  ⟨(some 1), none, .asg (.t 15)⟩]
def r_ingotref1_PutVar_3 : ICode := .region r_ingotref1_PutVar_3_o [] [0, 1]
@[go_sem] theorem r_ingotref1_PutVar_3_u : go X (.c r_ingotref1_PutVar_3 :: K) s = goR X r_ingotref1_PutVar_3_o [0, 1] K s := go_region _ _
def b_ingotref1_PutVar_4 : ICode := (.seq (.seq r_ingotref1_PutVar_1 (.cond (.t 6) .skip (.exit 0))) (.block 1 (.seq r_ingotref1_PutVar_2 r_ingotref1_PutVar_3)))
@[go_sem] theorem b_ingotref1_PutVar_4_u : go X (.c b_ingotref1_PutVar_4 :: K) s = go X (.c (.seq (.seq r_ingotref1_PutVar_1 (.cond (.t 6) .skip (.exit 0))) (.block 1 (.seq r_ingotref1_PutVar_2 r_ingotref1_PutVar_3))) :: K) s := rfl
@[go_sem] def r_ingotref1_PutVar_5_o : List IOper := [
  ⟨(some 16), none, .mv (.t 0)⟩,
  ⟨(some 17), none, .mv (.t 1)⟩,
  ⟨(some 18), none, .cvInt .u8 (.t 17)⟩,
  ⟨(some 19), none, .lit false 1 1 (.int .u8 0) [(0, (.t 18))]⟩,
  ⟨(some 20), none, .append 1 1 (.t 16) (.t 19)⟩,
  ⟨(some 4), none, .asg (.t 20)⟩]
def r_ingotref1_PutVar_5 : ICode := .region r_ingotref1_PutVar_5_o [] [4]
@[go_sem] theorem r_ingotref1_PutVar_5_u : go X (.c r_ingotref1_PutVar_5 :: K) s = goR X r_ingotref1_PutVar_5_o [4] K s := go_region _ _
def c_ingotref1_PutVar : ICode := (.seq r_ingotref1_PutVar_0 (.seq (.block 0 (.loop b_ingotref1_PutVar_4)) (.seq r_ingotref1_PutVar_5 .ret)))
def i_ingotref1_PutVar : IFunc := ⟨2, [.t 4], c_ingotref1_PutVar⟩
def a_ingotref1_PutVar : Advice := ⟨[13], [(4, [4]), (3, [0, 1]), (2, [0, 1]), (1, [0, 1, 6]), (0, [0, 1])], [], [], []⟩
/-! ingot/ingotref1.Zig -/
@[go_sem] def r_ingotref1_Zig_0_o : List IOper := [
  ⟨(some 2), none, .asg (.c (.int .u64 0))⟩]
def r_ingotref1_Zig_0 : ICode := .region r_ingotref1_Zig_0_o [] [0]
@[go_sem] theorem r_ingotref1_Zig_0_u : go X (.c r_ingotref1_Zig_0 :: K) s = goR X r_ingotref1_Zig_0_o [0] K s := go_region _ _
@[go_sem] def r_ingotref1_Zig_1_o : List IOper := [
  ⟨(some 3), none, .mv (.t 0)⟩,
  ⟨(some 4), none, .bin .lss (.t 3) (.c (.int .i64 0))⟩]
def r_ingotref1_Zig_1 : ICode := .region r_ingotref1_Zig_1_o [] [0, 4]
@[go_sem] theorem r_ingotref1_Zig_1_u : go X (.c r_ingotref1_Zig_1 :: K) s = goR X r_ingotref1_Zig_1_o [0, 4] K s := go_region _ _
@[go_sem] def r_ingotref1_Zig_2_o : List IOper := [
  ⟨(some 5), none, .mv (.t 0)⟩,
  ⟨(some 6), none, .bin .add (.t 5) (.c (.int .i64 1))⟩,
  ⟨(some 7), none, .bin .sub (.c (.int .i64 0)) (.t 6)⟩,
  ⟨(some 8), none, .cvInt .u64 (.t 7)⟩,
  ⟨(some 9), none, .bin .shl (.t 8) (.c (.int .u64 1))⟩,
  ⟨(some 10), none, .bin .or (.t 9) (.c (.int .u64 1))⟩,
  ⟨(some 2), none, .asg (.t 10)⟩]
def r_ingotref1_Zig_2 : ICode := .region r_ingotref1_Zig_2_o [] [2]
@[go_sem] theorem r_ingotref1_Zig_2_u : go X (.c r_ingotref1_Zig_2 :: K) s = goR X r_ingotref1_Zig_2_o [2] K s := go_region _ _
@[go_sem] def r_ingotref1_Zig_3_o : List IOper := [
  ⟨(some 11), none, .mv (.t 0)⟩,
  ⟨(some 12), none, .cvInt .u64 (.t 11)⟩,
  ⟨(some 13), none, .bin .shl (.t 12) (.c (.int .u64 1))⟩,
  ⟨(some 2), none, .asg (.t 13)⟩]
def r_ingotref1_Zig_3 : ICode := .region r_ingotref1_Zig_3_o [] [2]
@[go_sem] theorem r_ingotref1_Zig_3_u : go X (.c r_ingotref1_Zig_3 :: K) s = goR X r_ingotref1_Zig_3_o [2] K s := go_region _ _
def c_ingotref1_Zig : ICode := (.seq r_ingotref1_Zig_0 (.seq r_ingotref1_Zig_1 (.cond (.t 4) (.seq r_ingotref1_Zig_2 .ret) (.seq r_ingotref1_Zig_3 .ret))))
def i_ingotref1_Zig : IFunc := ⟨1, [.t 2], c_ingotref1_Zig⟩
def a_ingotref1_Zig : Advice := ⟨[], [(3, [2]), (2, [2]), (1, [0, 4]), (0, [0])], [], [], []⟩
/-! ingot/ingotref11.Encode -/
@[go_sem] def r_ingotref11_Encode_0_o : List IOper := [
  ⟨(some 2), none, .asg (.c .nilS)⟩]
def r_ingotref11_Encode_0 : ICode := .region r_ingotref11_Encode_0_o [] [0]
@[go_sem] theorem r_ingotref11_Encode_0_u : go X (.c r_ingotref11_Encode_0 :: K) s = goR X r_ingotref11_Encode_0_o [0] K s := go_region _ _
@[go_sem] def r_ingotref11_Encode_1_o : List IOper := [
  ⟨(some 3), none, .asg (.c .nilS)⟩]
def r_ingotref11_Encode_1 : ICode := .region r_ingotref11_Encode_1_o [] [0, 3]
@[go_sem] theorem r_ingotref11_Encode_1_u : go X (.c r_ingotref11_Encode_1 :: K) s = goR X r_ingotref11_Encode_1_o [0, 3] K s := go_region _ _
@[go_sem] def r_ingotref11_Encode_2_o : List IOper := [
  ⟨(some 4), none, .asg (.c (.int .i64 0))⟩]
def r_ingotref11_Encode_2 : ICode := .region r_ingotref11_Encode_2_o [] [0, 3, 4]
@[go_sem] theorem r_ingotref11_Encode_2_u : go X (.c r_ingotref11_Encode_2 :: K) s = goR X r_ingotref11_Encode_2_o [0, 3, 4] K s := go_region _ _
@[go_sem] def r_ingotref11_Encode_3_o : List IOper := [
  ⟨(some 5), none, .mv (.t 4)⟩,
  ⟨(some 6), none, .mv (.t 0)⟩,
  ⟨(some 7), none, .len false (.t 6)⟩,
  ⟨(some 8), none, .bin .lss (.t 5) (.t 7)⟩]
def r_ingotref11_Encode_3 : ICode := .region r_ingotref11_Encode_3_o [] [0, 3, 4, 8]
@[go_sem] theorem r_ingotref11_Encode_3_u : go X (.c r_ingotref11_Encode_3 :: K) s = goR X r_ingotref11_Encode_3_o [0, 3, 4, 8] K s := go_region _ _
@[go_sem] def r_ingotref11_Encode_4_o : List IOper := [
  ⟨(some 11), none, .mv (.t 3)⟩,
  ⟨(some 12), none, .mv (.t 0)⟩,
  ⟨(some 13), none, .mv (.t 4)⟩,
  ⟨(some 14), none, .idxA 1 (.t 12) (.t 13)⟩,
  ⟨(some 15), none, .load none (.t 14)⟩,
  ⟨(some 16), none, .call false n_ingotref1_Zig [(.t 15)]⟩,
  ⟨(some 17), none, .callg true n_ingotref1_PutVar [(.t 11), (.t 16)] 0⟩,
  ⟨(some 3), none, .asg (.t 17)⟩]
def r_ingotref11_Encode_4 : ICode := .region r_ingotref11_Encode_4_o [] [0, 3, 4]
@[go_sem] theorem r_ingotref11_Encode_4_u : go X (.c r_ingotref11_Encode_4 :: K) s = goR X r_ingotref11_Encode_4_o [0, 3, 4] K s := go_region _ _
@[go_sem] def r_ingotref11_Encode_5_o : List IOper := [
  ⟨(some 9), none, .mv (.t 4)⟩,
  ⟨(some 10), none, .bin .add (.t 9) (.c (.int .i64 1))⟩,
  ⟨(some 4), none, .asg (.t 10)⟩]
def r_ingotref11_Encode_5 : ICode := .region r_ingotref11_Encode_5_o [] [0, 3, 4]
@[go_sem] theorem r_ingotref11_Encode_5_u : go X (.c r_ingotref11_Encode_5 :: K) s = goR X r_ingotref11_Encode_5_o [0, 3, 4] K s := go_region _ _
def b_ingotref11_Encode_6 : ICode := (.seq (.seq r_ingotref11_Encode_3 (.cond (.t 8) .skip (.exit 0))) (.seq (.block 1 r_ingotref11_Encode_4) r_ingotref11_Encode_5))
@[go_sem] theorem b_ingotref11_Encode_6_u : go X (.c b_ingotref11_Encode_6 :: K) s = go X (.c (.seq (.seq r_ingotref11_Encode_3 (.cond (.t 8) .skip (.exit 0))) (.seq (.block 1 r_ingotref11_Encode_4) r_ingotref11_Encode_5)) :: K) s := rfl
@[go_sem] def r_ingotref11_Encode_7_o : List IOper := [
  ⟨(some 18), none, .mv (.t 3)⟩,
  ⟨(some 2), none, .asg (.t 18)⟩]
def r_ingotref11_Encode_7 : ICode := .region r_ingotref11_Encode_7_o [] [2]
@[go_sem] theorem r_ingotref11_Encode_7_u : go X (.c r_ingotref11_Encode_7 :: K) s = goR X r_ingotref11_Encode_7_o [2] K s := go_region _ _
def c_ingotref11_Encode : ICode := (.seq r_ingotref11_Encode_0 (.seq r_ingotref11_Encode_1 (.seq (.seq r_ingotref11_Encode_2 (.block 0 (.loop b_ingotref11_Encode_6))) (.seq r_ingotref11_Encode_7 .ret))))
def i_ingotref11_Encode : IFunc := ⟨1, [.t 2], c_ingotref11_Encode⟩
def a_ingotref11_Encode : Advice := ⟨[17], [(6, [2]), (4, [0, 3, 4]), (5, [0, 3, 4]), (3, [0, 3, 4, 8]), (2, [0, 3, 4]), (1, [0, 3]), (0, [0])], [], [], [(17, 0)]⟩
/-! ingot/ingotlaw8.Same -/
@[go_sem] def r_ingotlaw8_Same_0_o : List IOper := [
  ⟨(some 4), none, .asg (.c (.bool false))⟩]
def r_ingotlaw8_Same_0 : ICode := .region r_ingotlaw8_Same_0_o [] [0, 1]
@[go_sem] theorem r_ingotlaw8_Same_0_u : go X (.c r_ingotlaw8_Same_0 :: K) s = goR X r_ingotlaw8_Same_0_o [0, 1] K s := go_region _ _
@[go_sem] def r_ingotlaw8_Same_1_o : List IOper := [
  ⟨(some 6), none, .mv (.t 0)⟩,
  ⟨(some 7), none, .len false (.t 6)⟩,
  ⟨(some 8), none, .mv (.t 1)⟩,
  ⟨(some 9), none, .len false (.t 8)⟩,
  ⟨(some 10), none, .bin .neq (.t 7) (.t 9)⟩]
def r_ingotlaw8_Same_1 : ICode := .region r_ingotlaw8_Same_1_o [] [0, 1, 10]
@[go_sem] theorem r_ingotlaw8_Same_1_u : go X (.c r_ingotlaw8_Same_1 :: K) s = goR X r_ingotlaw8_Same_1_o [0, 1, 10] K s := go_region _ _
@[go_sem] def r_ingotlaw8_Same_2_o : List IOper := [
  ⟨(some 4), none, .asg (.c (.bool false))⟩]
def r_ingotlaw8_Same_2 : ICode := .region r_ingotlaw8_Same_2_o [] [4]
@[go_sem] theorem r_ingotlaw8_Same_2_u : go X (.c r_ingotlaw8_Same_2 :: K) s = goR X r_ingotlaw8_Same_2_o [4] K s := go_region _ _
@[go_sem] def r_ingotlaw8_Same_3_o : List IOper := [
  ⟨(some 5), none, .asg (.c (.int .i64 0))⟩]
def r_ingotlaw8_Same_3 : ICode := .region r_ingotlaw8_Same_3_o [] [0, 1, 5]
@[go_sem] theorem r_ingotlaw8_Same_3_u : go X (.c r_ingotlaw8_Same_3 :: K) s = goR X r_ingotlaw8_Same_3_o [0, 1, 5] K s := go_region _ _
@[go_sem] def r_ingotlaw8_Same_4_o : List IOper := [
  ⟨(some 11), none, .mv (.t 5)⟩,
  ⟨(some 12), none, .mv (.t 0)⟩,
  ⟨(some 13), none, .len false (.t 12)⟩,
  ⟨(some 14), none, .bin .lss (.t 11) (.t 13)⟩]
def r_ingotlaw8_Same_4 : ICode := .region r_ingotlaw8_Same_4_o [] [0, 1, 5, 14]
@[go_sem] theorem r_ingotlaw8_Same_4_u : go X (.c r_ingotlaw8_Same_4 :: K) s = goR X r_ingotlaw8_Same_4_o [0, 1, 5, 14] K s := go_region _ _
@[go_sem] def r_ingotlaw8_Same_5_o : List IOper := [
  ⟨(some 17), none, .mv (.t 0)⟩,
  ⟨(some 18), none, .mv (.t 5)⟩,
  ⟨(some 19), none, .idxA 1 (.t 17) (.t 18)⟩,
  ⟨(some 20), none, .load none (.t 19)⟩,
  ⟨(some 21), none, .mv (.t 1)⟩,
  ⟨(some 22), none, .mv (.t 5)⟩,
  ⟨(some 23), none, .idxA 1 (.t 21) (.t 22)⟩,
  ⟨(some 24), none, .load none (.t 23)⟩,
  ⟨(some 25), none, .bin .neq (.t 20) (.t 24)⟩]
def r_ingotlaw8_Same_5_n : List (Nat × Nat) := [(0, 1), (0, 4), (1, 4), (2, 4), (3, 4), (0, 5), (1, 5), (2, 5), (3, 5), (4, 5), (0, 6), (1, 6), (2, 6), (3, 6), (0, 7), (1, 7), (2, 7), (3, 7)]
def r_ingotlaw8_Same_5 : ICode := .region r_ingotlaw8_Same_5_o r_ingotlaw8_Same_5_n [0, 1, 5, 25]
@[go_sem] theorem r_ingotlaw8_Same_5_u : go X (.c r_ingotlaw8_Same_5 :: K) s = goRU X [] r_ingotlaw8_Same_5_n r_ingotlaw8_Same_5_o [0, 1, 5, 25] K s := go_regionU' _ _ _ _
@[go_sem] def r_ingotlaw8_Same_6_o : List IOper := [
  ⟨(some 4), none, .asg (.c (.bool false))⟩]
def r_ingotlaw8_Same_6 : ICode := .region r_ingotlaw8_Same_6_o [] [4]
@[go_sem] theorem r_ingotlaw8_Same_6_u : go X (.c r_ingotlaw8_Same_6 :: K) s = goR X r_ingotlaw8_Same_6_o [4] K s := go_region _ _
@[go_sem] def r_ingotlaw8_Same_7_o : List IOper := [
  ⟨(some 15), none, .mv (.t 5)⟩,
  ⟨(some 16), none, .bin .add (.t 15) (.c (.int .i64 1))⟩,
  ⟨(some 5), none, .asg (.t 16)⟩]
def r_ingotlaw8_Same_7 : ICode := .region r_ingotlaw8_Same_7_o [] [0, 1, 5]
@[go_sem] theorem r_ingotlaw8_Same_7_u : go X (.c r_ingotlaw8_Same_7 :: K) s = goR X r_ingotlaw8_Same_7_o [0, 1, 5] K s := go_region _ _
def b_ingotlaw8_Same_8 : ICode := (.seq (.seq r_ingotlaw8_Same_4 (.cond (.t 14) .skip (.exit 0))) (.seq (.block 1 (.seq r_ingotlaw8_Same_5 (.cond (.t 25) (.seq r_ingotlaw8_Same_6 .ret) .skip))) r_ingotlaw8_Same_7))
@[go_sem] theorem b_ingotlaw8_Same_8_u : go X (.c b_ingotlaw8_Same_8 :: K) s = go X (.c (.seq (.seq r_ingotlaw8_Same_4 (.cond (.t 14) .skip (.exit 0))) (.seq (.block 1 (.seq r_ingotlaw8_Same_5 (.cond (.t 25) (.seq r_ingotlaw8_Same_6 .ret) .skip))) r_ingotlaw8_Same_7)) :: K) s := rfl
@[go_sem] def r_ingotlaw8_Same_9_o : List IOper := [
  ⟨(some 4), none, .asg (.c (.bool true))⟩]
def r_ingotlaw8_Same_9 : ICode := .region r_ingotlaw8_Same_9_o [] [4]
@[go_sem] theorem r_ingotlaw8_Same_9_u : go X (.c r_ingotlaw8_Same_9 :: K) s = goR X r_ingotlaw8_Same_9_o [4] K s := go_region _ _
def c_ingotlaw8_Same : ICode := (.seq r_ingotlaw8_Same_0 (.seq r_ingotlaw8_Same_1 (.cond (.t 10) (.seq r_ingotlaw8_Same_2 .ret) (.seq (.seq r_ingotlaw8_Same_3 (.block 0 (.loop b_ingotlaw8_Same_8))) (.seq r_ingotlaw8_Same_9 .ret)))))
def i_ingotlaw8_Same : IFunc := ⟨2, [.t 4], c_ingotlaw8_Same⟩
def a_ingotlaw8_Same : Advice := ⟨[], [(8, [4]), (5, [0, 1, 5]), (7, [4]), (6, [0, 1, 5, 25]), (4, [0, 1, 5, 14]), (3, [0, 1, 5]), (2, [4]), (1, [0, 1, 10]), (0, [0, 1])], [], [], []⟩
/-! ingot/ingotref1.Zag -/
@[go_sem] def r_ingotref1_Zag_0_o : List IOper := [
  ⟨(some 2), none, .asg (.c (.int .i64 0))⟩]
def r_ingotref1_Zag_0 : ICode := .region r_ingotref1_Zag_0_o [] [0]
@[go_sem] theorem r_ingotref1_Zag_0_u : go X (.c r_ingotref1_Zag_0 :: K) s = goR X r_ingotref1_Zag_0_o [0] K s := go_region _ _
@[go_sem] def r_ingotref1_Zag_1_o : List IOper := [
  ⟨(some 4), none, .mv (.t 0)⟩,
  ⟨(some 5), none, .bin .shr (.t 4) (.c (.int .u64 1))⟩,
  ⟨(some 6), none, .cvInt .i64 (.t 5)⟩,
  ⟨(some 3), none, .asg (.t 6)⟩]
def r_ingotref1_Zag_1 : ICode := .region r_ingotref1_Zag_1_o [] [0, 3]
@[go_sem] theorem r_ingotref1_Zag_1_u : go X (.c r_ingotref1_Zag_1 :: K) s = goR X r_ingotref1_Zag_1_o [0, 3] K s := go_region _ _
@[go_sem] def r_ingotref1_Zag_2_o : List IOper := [
  ⟨(some 7), none, .mv (.t 0)⟩,
  ⟨(some 8), none, .bin .and (.t 7) (.c (.int .u64 1))⟩,
  ⟨(some 9), none, .bin .eql (.t 8) (.c (.int .u64 1))⟩]
def r_ingotref1_Zag_2 : ICode := .region r_ingotref1_Zag_2_o [] [3, 9]
@[go_sem] theorem r_ingotref1_Zag_2_u : go X (.c r_ingotref1_Zag_2 :: K) s = goR X r_ingotref1_Zag_2_o [3, 9] K s := go_region _ _
@[go_sem] def r_ingotref1_Zag_3_o : List IOper := [
  ⟨(some 10), none, .mv (.t 3)⟩,
  ⟨(some 11), none, .bin .sub (.c (.int .i64 0)) (.t 10)⟩,
  ⟨(some 12), none, .bin .sub (.t 11) (.c (.int .i64 1))⟩,
  ⟨(some 2), none, .asg (.t 12)⟩]
def r_ingotref1_Zag_3 : ICode := .region r_ingotref1_Zag_3_o [] [2]
@[go_sem] theorem r_ingotref1_Zag_3_u : go X (.c r_ingotref1_Zag_3 :: K) s = goR X r_ingotref1_Zag_3_o [2] K s := go_region _ _
@[go_sem] def r_ingotref1_Zag_4_o : List IOper := [
  ⟨(some 13), none, .mv (.t 3)⟩,
  ⟨(some 2), none, .asg (.t 13)⟩]
def r_ingotref1_Zag_4 : ICode := .region r_ingotref1_Zag_4_o [] [2]
@[go_sem] theorem r_ingotref1_Zag_4_u : go X (.c r_ingotref1_Zag_4 :: K) s = goR X r_ingotref1_Zag_4_o [2] K s := go_region _ _
def c_ingotref1_Zag : ICode := (.seq r_ingotref1_Zag_0 (.seq r_ingotref1_Zag_1 (.seq r_ingotref1_Zag_2 (.cond (.t 9) (.seq r_ingotref1_Zag_3 .ret) (.seq r_ingotref1_Zag_4 .ret)))))
def i_ingotref1_Zag : IFunc := ⟨1, [.t 2], c_ingotref1_Zag⟩
def a_ingotref1_Zag : Advice := ⟨[], [(4, [2]), (3, [2]), (2, [3, 9]), (1, [0, 3]), (0, [0])], [], [], []⟩
/-! ingot/ingotref1.Var -/
@[go_sem] def r_ingotref1_Var_0_o : List IOper := [
  ⟨(some 4), none, .asg (.c (.int .u64 0))⟩,
  ⟨(some 5), none, .asg (.c (.int .i64 0))⟩,
  ⟨(some 6), none, .asg (.c (.int .i64 0))⟩]
def r_ingotref1_Var_0 : ICode := .region r_ingotref1_Var_0_o [] [0, 1]
@[go_sem] theorem r_ingotref1_Var_0_u : go X (.c r_ingotref1_Var_0 :: K) s = goR X r_ingotref1_Var_0_o [0, 1] K s := go_region _ _
@[go_sem] def r_ingotref1_Var_1_o : List IOper := [
  ⟨(some 10), none, .mv (.t 1)⟩,
  ⟨(some 11), none, .bin .lss (.t 10) (.c (.int .i64 0))⟩,
  ⟨(some 12), none, .mv (.t 11)⟩,
  ⟨(some 13), some (12, false), .mv (.t 1)⟩,
  ⟨(some 14), some (12, false), .mv (.t 0)⟩,
  ⟨(some 15), some (12, false), .len false (.t 14)⟩,
  ⟨(some 16), some (12, false), .bin .gtr (.t 13) (.t 15)⟩,
  ⟨(some 17), none, .pick (.t 12) (.c (.bool true)) (.t 16)⟩]
def r_ingotref1_Var_1 : ICode := .region r_ingotref1_Var_1_o [] [0, 1, 17]
@[go_sem] theorem r_ingotref1_Var_1_u : go X (.c r_ingotref1_Var_1 :: K) s = goR X r_ingotref1_Var_1_o [0, 1, 17] K s := go_region _ _
@[go_sem] def r_ingotref1_Var_2_o : List IOper := [
  ⟨(some 4), none, .asg (.c (.int .u64 0))⟩,
  ⟨(some 5), none, .asg (.c (.int .i64 0))⟩,
  ⟨(some 6), none, .asg (.c (.int .i64 1))⟩]
def r_ingotref1_Var_2 : ICode := .region r_ingotref1_Var_2_o [] [4, 5, 6]
@[go_sem] theorem r_ingotref1_Var_2_u : go X (.c r_ingotref1_Var_2 :: K) s = goR X r_ingotref1_Var_2_o [4, 5, 6] K s := go_region _ _
@[go_sem] def r_ingotref1_Var_3_o : List IOper := [
  ⟨(some 7), none, .asg (.c (.int .u64 0))⟩]
def r_ingotref1_Var_3 : ICode := .region r_ingotref1_Var_3_o [] [0, 1, 7]
@[go_sem] theorem r_ingotref1_Var_3_u : go X (.c r_ingotref1_Var_3 :: K) s = goR X r_ingotref1_Var_3_o [0, 1, 7] K s := go_region _ _
@[go_sem] def r_ingotref1_Var_4_o : List IOper := [
  ⟨(some 8), none, .asg (.c (.int .i64 0))⟩]
def r_ingotref1_Var_4 : ICode := .region r_ingotref1_Var_4_o [] [0, 1, 7, 8]
@[go_sem] theorem r_ingotref1_Var_4_u : go X (.c r_ingotref1_Var_4 :: K) s = goR X r_ingotref1_Var_4_o [0, 1, 7, 8] K s := go_region _ _
@[go_sem] def r_ingotref1_Var_5_o : List IOper := [
  ⟨(some 18), none, .mv (.t 8)⟩,
  ⟨(some 19), none, .bin .lss (.t 18) (.c (.int .i64 10))⟩]
def r_ingotref1_Var_5 : ICode := .region r_ingotref1_Var_5_o [] [0, 1, 7, 8, 19]
@[go_sem] theorem r_ingotref1_Var_5_u : go X (.c r_ingotref1_Var_5 :: K) s = goR X r_ingotref1_Var_5_o [0, 1, 7, 8, 19] K s := go_region _ _
@[go_sem] def r_ingotref1_Var_6_o : List IOper := [
  ⟨(some 22), none, .mv (.t 1)⟩,
  ⟨(some 23), none, .mv (.t 8)⟩,
  ⟨(some 24), none, .bin .add (.t 22) (.t 23)⟩,
  ⟨(some 25), none, .mv (.t 0)⟩,
  ⟨(some 26), none, .len false (.t 25)⟩,
  ⟨(some 27), none, .bin .eql (.t 24) (.t 26)⟩]
def r_ingotref1_Var_6 : ICode := .region r_ingotref1_Var_6_o [] [0, 1, 7, 8, 27]
@[go_sem] theorem r_ingotref1_Var_6_u : go X (.c r_ingotref1_Var_6 :: K) s = goR X r_ingotref1_Var_6_o [0, 1, 7, 8, 27] K s := go_region _ _
@[go_sem] def r_ingotref1_Var_7_o : List IOper := [
  ⟨(some 4), none, .asg (.c (.int .u64 0))⟩,
  ⟨(some 5), none, .asg (.c (.int .i64 0))⟩,
  ⟨(some 6), none, .asg (.c (.int .i64 3))⟩]
def r_ingotref1_Var_7 : ICode := .region r_ingotref1_Var_7_o [] [4, 5, 6]
@[go_sem] theorem r_ingotref1_Var_7_u : go X (.c r_ingotref1_Var_7 :: K) s = goR X r_ingotref1_Var_7_o [4, 5, 6] K s := go_region _ _
@[go_sem] def r_ingotref1_Var_8_o : List IOper := [
  ⟨(some 28), none, .mv (.t 0)⟩,
  ⟨(some 29), none, .mv (.t 1)⟩,
  ⟨(some 30), none, .mv (.t 8)⟩,
  ⟨(some 31), none, .bin .add (.t 29) (.t 30)⟩,
  ⟨(some 32), none, .idxA 1 (.t 28) (.t 31)⟩,
  ⟨(some 33), none, .load none (.t 32)⟩,
  ⟨(some 9), none, .asg (.t 33)⟩]
def r_ingotref1_Var_8 : ICode := .region r_ingotref1_Var_8_o [] [0, 1, 7, 8, 9]
@[go_sem] theorem r_ingotref1_Var_8_u : go X (.c r_ingotref1_Var_8 :: K) s = goR X r_ingotref1_Var_8_o [0, 1, 7, 8, 9] K s := go_region _ _
@[go_sem] def r_ingotref1_Var_9_o : List IOper := [
  ⟨(some 34), none, .mv (.t 8)⟩,
  ⟨(some 35), none, .bin .eql (.t 34) (.c (.int .i64 9))⟩,
  ⟨(some 36), none, .mv (.t 35)⟩,
  ⟨(some 37), some (36, true), .mv (.t 9)⟩,
  ⟨(some 38), some (36, true), .bin .gtr (.t 37) (.c (.int .u8 1))⟩,
  ⟨(some 39), none, .pick (.t 36) (.t 38) (.c (.bool false))⟩]
def r_ingotref1_Var_9 : ICode := .region r_ingotref1_Var_9_o [] [0, 1, 7, 8, 9, 39]
@[go_sem] theorem r_ingotref1_Var_9_u : go X (.c r_ingotref1_Var_9 :: K) s = goR X r_ingotref1_Var_9_o [0, 1, 7, 8, 9, 39] K s := go_region _ _
@[go_sem] def r_ingotref1_Var_10_o : List IOper := [
  ⟨(some 4), none, .asg (.c (.int .u64 0))⟩,
  ⟨(some 5), none, .asg (.c (.int .i64 0))⟩,
  ⟨(some 6), none, .asg (.c (.int .i64 4))⟩]
def r_ingotref1_Var_10 : ICode := .region r_ingotref1_Var_10_o [] [4, 5, 6]
@[go_sem] theorem r_ingotref1_Var_10_u : go X (.c r_ingotref1_Var_10 :: K) s = goR X r_ingotref1_Var_10_o [4, 5, 6] K s := go_region _ _
@[go_sem] def r_ingotref1_Var_11_o : List IOper := [
  ⟨(some 40), none, .mv (.t 7)⟩,
  ⟨(some 41), none, .mv (.t 9)⟩,
  ⟨(some 42), none, .bin .and (.t 41) (.c (.int .u8 127))⟩,
  ⟨(some 43), none, .cvInt .u64 (.t 42)⟩,
  ⟨(some 44), none, .mv (.t 8)⟩,
  ⟨(some 45), none, .cvInt .u64 (.t 44)⟩,
  ⟨(some 46), none, .bin .mul (.c (.int .u64 7)) (.t 45)⟩,
  ⟨(some 47), none, .bin .shl (.t 43) (.t 46)⟩,
  ⟨(some 48), none, .bin .or (.t 40) (.t 47)⟩,
  ⟨(some 7), none, .asg (.t 48)⟩]
def r_ingotref1_Var_11 : ICode := .region r_ingotref1_Var_11_o [] [0, 1, 7, 8, 9]
@[go_sem] theorem r_ingotref1_Var_11_u : go X (.c r_ingotref1_Var_11 :: K) s = goR X r_ingotref1_Var_11_o [0, 1, 7, 8, 9] K s := go_region _ _
@[go_sem] def r_ingotref1_Var_12_o : List IOper := [
  ⟨(some 49), none, .mv (.t 9)⟩,
  ⟨(some 50), none, .bin .lss (.t 49) (.c (.int .u8 128))⟩]
def r_ingotref1_Var_12 : ICode := .region r_ingotref1_Var_12_o [] [0, 1, 7, 8, 50]
@[go_sem] theorem r_ingotref1_Var_12_u : go X (.c r_ingotref1_Var_12 :: K) s = goR X r_ingotref1_Var_12_o [0, 1, 7, 8, 50] K s := go_region _ _
@[go_sem] def r_ingotref1_Var_13_o : List IOper := [
  ⟨(some 51), none, .mv (.t 7)⟩,
  ⟨(some 52), none, .mv (.t 8)⟩,
  ⟨(some 53), none, .bin .add (.t 52) (.c (.int .i64 1))⟩,
  ⟨(some 4), none, .asg (.t 51)⟩,
  ⟨(some 5), none, .asg (.t 53)⟩,
  ⟨(some 6), none, .asg (.c (.int .i64 0))⟩]
def r_ingotref1_Var_13 : ICode := .region r_ingotref1_Var_13_o [] [4, 5, 6]
@[go_sem] theorem r_ingotref1_Var_13_u : go X (.c r_ingotref1_Var_13 :: K) s = goR X r_ingotref1_Var_13_o [4, 5, 6] K s := go_region _ _
@[go_sem] def r_ingotref1_Var_14_o : List IOper := [
  ⟨(some 20), none, .mv (.t 8)⟩,
  ⟨(some 21), none, .bin .add (.t 20) (.c (.int .i64 1))⟩,
  ⟨(some 8), none, .asg (.t 21)⟩]
def r_ingotref1_Var_14 : ICode := .region r_ingotref1_Var_14_o [] [0, 1, 7, 8]
@[go_sem] theorem r_ingotref1_Var_14_u : go X (.c r_ingotref1_Var_14 :: K) s = goR X r_ingotref1_Var_14_o [0, 1, 7, 8] K s := go_region _ _
def b_ingotref1_Var_15 : ICode := (.seq (.seq r_ingotref1_Var_5 (.cond (.t 19) .skip (.exit 0))) (.seq (.block 1 (.seq (.seq r_ingotref1_Var_6 (.cond (.t 27) (.seq r_ingotref1_Var_7 .ret) .skip)) (.seq r_ingotref1_Var_8 (.seq (.seq r_ingotref1_Var_9 (.cond (.t 39) (.seq r_ingotref1_Var_10 .ret) .skip)) (.seq r_ingotref1_Var_11 (.seq r_ingotref1_Var_12 (.cond (.t 50) (.seq r_ingotref1_Var_13 .ret) .skip))))))) r_ingotref1_Var_14))
@[go_sem] theorem b_ingotref1_Var_15_u : go X (.c b_ingotref1_Var_15 :: K) s = go X (.c (.seq (.seq r_ingotref1_Var_5 (.cond (.t 19) .skip (.exit 0))) (.seq (.block 1 (.seq (.seq r_ingotref1_Var_6 (.cond (.t 27) (.seq r_ingotref1_Var_7 .ret) .skip)) (.seq r_ingotref1_Var_8 (.seq (.seq r_ingotref1_Var_9 (.cond (.t 39) (.seq r_ingotref1_Var_10 .ret) .skip)) (.seq r_ingotref1_Var_11 (.seq r_ingotref1_Var_12 (.cond (.t 50) (.seq r_ingotref1_Var_13 .ret) .skip))))))) r_ingotref1_Var_14)) :: K) s := rfl
@[go_sem] def r_ingotref1_Var_16_o : List IOper := [
  ⟨(some 4), none, .asg (.c (.int .u64 0))⟩,
  ⟨(some 5), none, .asg (.c (.int .i64 0))⟩,
  ⟨(some 6), none, .asg (.c (.int .i64 4))⟩]
def r_ingotref1_Var_16 : ICode := .region r_ingotref1_Var_16_o [] [4, 5, 6]
@[go_sem] theorem r_ingotref1_Var_16_u : go X (.c r_ingotref1_Var_16 :: K) s = goR X r_ingotref1_Var_16_o [4, 5, 6] K s := go_region _ _
def c_ingotref1_Var : ICode := (.seq r_ingotref1_Var_0 (.seq r_ingotref1_Var_1 (.cond (.t 17) (.seq r_ingotref1_Var_2 .ret) (.seq r_ingotref1_Var_3 (.seq (.seq r_ingotref1_Var_4 (.block 0 (.loop b_ingotref1_Var_15))) (.seq r_ingotref1_Var_16 .ret))))))
def i_ingotref1_Var : IFunc := ⟨2, [.t 4, .t 5, .t 6], c_ingotref1_Var⟩
def a_ingotref1_Var : Advice := ⟨[], [(15, [4, 5, 6]), (6, [0, 1, 7, 8]), (14, [4, 5, 6]), (13, [0, 1, 7, 8, 50]), (12, [0, 1, 7, 8, 9]), (11, [4, 5, 6]), (10, [0, 1, 7, 8, 9, 39]), (9, [0, 1, 7, 8, 9]), (8, [4, 5, 6]), (7, [0, 1, 7, 8, 27]), (5, [0, 1, 7, 8, 19]), (4, [0, 1, 7, 8]), (3, [0, 1, 7]), (2, [4, 5, 6]), (1, [0, 1, 17]), (0, [0, 1])], [], [], []⟩
/-! ingot/ingotref11.Decode -/
@[go_sem] def r_ingotref11_Decode_0_o : List IOper := [
  ⟨(some 4), none, .asg (.c .nilS)⟩,
  ⟨(some 5), none, .asg (.c (.int .i64 0))⟩]
def r_ingotref11_Decode_0 : ICode := .region r_ingotref11_Decode_0_o [] [0, 1]
@[go_sem] theorem r_ingotref11_Decode_0_u : go X (.c r_ingotref11_Decode_0 :: K) s = goR X r_ingotref11_Decode_0_o [0, 1] K s := go_region _ _
@[go_sem] def r_ingotref11_Decode_1_o : List IOper := [
  ⟨(some 12), none, .mv (.t 1)⟩,
  ⟨(some 13), none, .bin .lss (.t 12) (.c (.int .i64 0))⟩,
  ⟨(some 14), none, .mv (.t 13)⟩,
  ⟨(some 15), some (14, false), .mv (.t 1)⟩,
  ⟨(some 16), some (14, false), .bin .gtr (.t 15) (.c (.int .i64 16384))⟩,
  ⟨(some 17), none, .pick (.t 14) (.c (.bool true)) (.t 16)⟩]
def r_ingotref11_Decode_1 : ICode := .region r_ingotref11_Decode_1_o [] [0, 1, 17]
@[go_sem] theorem r_ingotref11_Decode_1_u : go X (.c r_ingotref11_Decode_1 :: K) s = goR X r_ingotref11_Decode_1_o [0, 1, 17] K s := go_region _ _
@[go_sem] def r_ingotref11_Decode_2_o : List IOper := [
  ⟨(some 4), none, .asg (.c .nilS)⟩,
  ⟨(some 5), none, .asg (.c (.int .i64 1))⟩]
def r_ingotref11_Decode_2 : ICode := .region r_ingotref11_Decode_2_o [] [4, 5]
@[go_sem] theorem r_ingotref11_Decode_2_u : go X (.c r_ingotref11_Decode_2 :: K) s = goR X r_ingotref11_Decode_2_o [4, 5] K s := go_region _ _
@[go_sem] def r_ingotref11_Decode_3_o : List IOper := [
  ⟨(some 6), none, .asg (.c .nilS)⟩]
def r_ingotref11_Decode_3 : ICode := .region r_ingotref11_Decode_3_o [] [0, 1, 6]
@[go_sem] theorem r_ingotref11_Decode_3_u : go X (.c r_ingotref11_Decode_3 :: K) s = goR X r_ingotref11_Decode_3_o [0, 1, 6] K s := go_region _ _
@[go_sem] def r_ingotref11_Decode_4_o : List IOper := [
  ⟨(some 7), none, .asg (.c (.int .i64 0))⟩]
def r_ingotref11_Decode_4 : ICode := .region r_ingotref11_Decode_4_o [] [0, 1, 6, 7]
@[go_sem] theorem r_ingotref11_Decode_4_u : go X (.c r_ingotref11_Decode_4 :: K) s = goR X r_ingotref11_Decode_4_o [0, 1, 6, 7] K s := go_region _ _
@[go_sem] def r_ingotref11_Decode_5_o : List IOper := [
  ⟨(some 8), none, .asg (.c (.int .i64 0))⟩]
def r_ingotref11_Decode_5 : ICode := .region r_ingotref11_Decode_5_o [] [0, 1, 6, 7, 8]
@[go_sem] theorem r_ingotref11_Decode_5_u : go X (.c r_ingotref11_Decode_5 :: K) s = goR X r_ingotref11_Decode_5_o [0, 1, 6, 7, 8] K s := go_region _ _
@[go_sem] def r_ingotref11_Decode_6_o : List IOper := [
  ⟨(some 18), none, .mv (.t 8)⟩,
  ⟨(some 19), none, .mv (.t 1)⟩,
  ⟨(some 20), none, .bin .lss (.t 18) (.t 19)⟩]
def r_ingotref11_Decode_6 : ICode := .region r_ingotref11_Decode_6_o [] [0, 1, 6, 7, 8, 20]
@[go_sem] theorem r_ingotref11_Decode_6_u : go X (.c r_ingotref11_Decode_6 :: K) s = goR X r_ingotref11_Decode_6_o [0, 1, 6, 7, 8, 20] K s := go_region _ _
@[go_sem] def r_ingotref11_Decode_7_o : List IOper := [
  ⟨(some 24), none, .mv (.t 0)⟩,
  ⟨(some 25), none, .mv (.t 7)⟩,
  ⟨(some 26), none, .call false n_ingotref1_Var [(.t 24), (.t 25)]⟩,
  ⟨(some 23), none, .mv (.t 26)⟩,
  ⟨(some 27), none, .ext (.t 23) 0⟩,
  ⟨(some 28), none, .ext (.t 23) 1⟩,
  ⟨(some 29), none, .ext (.t 23) 2⟩,
  ⟨(some 9), none, .asg (.t 27)⟩,
  ⟨(some 10), none, .asg (.t 28)⟩,
  ⟨(some 11), none, .asg (.t 29)⟩]
def r_ingotref11_Decode_7 : ICode := .region r_ingotref11_Decode_7_o [] [0, 1, 6, 7, 8, 9, 10, 11]
@[go_sem] theorem r_ingotref11_Decode_7_u : go X (.c r_ingotref11_Decode_7 :: K) s = goR X r_ingotref11_Decode_7_o [0, 1, 6, 7, 8, 9, 10, 11] K s := go_region _ _
@[go_sem] def r_ingotref11_Decode_8_o : List IOper := [
  ⟨(some 30), none, .mv (.t 11)⟩,
  ⟨(some 31), none, .bin .neq (.t 30) (.c (.int .i64 0))⟩]
def r_ingotref11_Decode_8 : ICode := .region r_ingotref11_Decode_8_o [] [0, 1, 6, 7, 8, 9, 10, 11, 31]
@[go_sem] theorem r_ingotref11_Decode_8_u : go X (.c r_ingotref11_Decode_8 :: K) s = goR X r_ingotref11_Decode_8_o [0, 1, 6, 7, 8, 9, 10, 11, 31] K s := go_region _ _
@[go_sem] def r_ingotref11_Decode_9_o : List IOper := [
  ⟨(some 32), none, .mv (.t 11)⟩,
  ⟨(some 4), none, .asg (.c .nilS)⟩,
  ⟨(some 5), none, .asg (.t 32)⟩]
def r_ingotref11_Decode_9 : ICode := .region r_ingotref11_Decode_9_o [] [4, 5]
@[go_sem] theorem r_ingotref11_Decode_9_u : go X (.c r_ingotref11_Decode_9 :: K) s = goR X r_ingotref11_Decode_9_o [4, 5] K s := go_region _ _
@[go_sem] def r_ingotref11_Decode_10_o : List IOper := [
  ⟨(some 33), none, .mv (.t 6)⟩,
  ⟨(some 34), none, .mv (.t 9)⟩,
  ⟨(some 35), none, .call false n_ingotref1_Zag [(.t 34)]⟩,
  ⟨(some 36), none, .lit false 1 1 (.int .i64 0) [(0, (.t 35))]⟩,
  ⟨(some 37), none, .append 1 8 (.t 33) (.t 36)⟩,
  ⟨(some 6), none, .asg (.t 37)⟩]
def r_ingotref11_Decode_10 : ICode := .region r_ingotref11_Decode_10_o [] [0, 1, 6, 7, 8, 10]
@[go_sem] theorem r_ingotref11_Decode_10_u : go X (.c r_ingotref11_Decode_10 :: K) s = goR X r_ingotref11_Decode_10_o [0, 1, 6, 7, 8, 10] K s := go_region _ _
@[go_sem] def r_ingotref11_Decode_11_o : List IOper := [
  ⟨(some 38), none, .mv (.t 7)⟩,
  ⟨(some 39), none, .mv (.t 10)⟩,
  ⟨(some 40), none, .bin .add (.t 38) (.t 39)⟩,
  ⟨(some 7), none, .asg (.t 40)⟩]
def r_ingotref11_Decode_11 : ICode := .region r_ingotref11_Decode_11_o [] [0, 1, 6, 7, 8]
@[go_sem] theorem r_ingotref11_Decode_11_u : go X (.c r_ingotref11_Decode_11 :: K) s = goR X r_ingotref11_Decode_11_o [0, 1, 6, 7, 8] K s := go_region _ _
@[go_sem] def r_ingotref11_Decode_12_o : List IOper := [
  ⟨(some 21), none, .mv (.t 8)⟩,
  ⟨(some 22), none, .bin .add (.t 21) (.c (.int .i64 1))⟩,
  ⟨(some 8), none, .asg (.t 22)⟩]
def r_ingotref11_Decode_12 : ICode := .region r_ingotref11_Decode_12_o [] [0, 1, 6, 7, 8]
@[go_sem] theorem r_ingotref11_Decode_12_u : go X (.c r_ingotref11_Decode_12 :: K) s = goR X r_ingotref11_Decode_12_o [0, 1, 6, 7, 8] K s := go_region _ _
def b_ingotref11_Decode_13 : ICode := (.seq (.seq r_ingotref11_Decode_6 (.cond (.t 20) .skip (.exit 0))) (.seq (.block 1 (.seq r_ingotref11_Decode_7 (.seq (.seq r_ingotref11_Decode_8 (.cond (.t 31) (.seq r_ingotref11_Decode_9 .ret) .skip)) (.seq r_ingotref11_Decode_10 r_ingotref11_Decode_11)))) r_ingotref11_Decode_12))
@[go_sem] theorem b_ingotref11_Decode_13_u : go X (.c b_ingotref11_Decode_13 :: K) s = go X (.c (.seq (.seq r_ingotref11_Decode_6 (.cond (.t 20) .skip (.exit 0))) (.seq (.block 1 (.seq r_ingotref11_Decode_7 (.seq (.seq r_ingotref11_Decode_8 (.cond (.t 31) (.seq r_ingotref11_Decode_9 .ret) .skip)) (.seq r_ingotref11_Decode_10 r_ingotref11_Decode_11)))) r_ingotref11_Decode_12)) :: K) s := rfl
@[go_sem] def r_ingotref11_Decode_14_o : List IOper := [
  ⟨(some 41), none, .mv (.t 7)⟩,
  ⟨(some 42), none, .mv (.t 0)⟩,
  ⟨(some 43), none, .len false (.t 42)⟩,
  ⟨(some 44), none, .bin .neq (.t 41) (.t 43)⟩]
def r_ingotref11_Decode_14 : ICode := .region r_ingotref11_Decode_14_o [] [6, 44]
@[go_sem] theorem r_ingotref11_Decode_14_u : go X (.c r_ingotref11_Decode_14 :: K) s = goR X r_ingotref11_Decode_14_o [6, 44] K s := go_region _ _
@[go_sem] def r_ingotref11_Decode_15_o : List IOper := [
  ⟨(some 4), none, .asg (.c .nilS)⟩,
  ⟨(some 5), none, .asg (.c (.int .i64 2))⟩]
def r_ingotref11_Decode_15 : ICode := .region r_ingotref11_Decode_15_o [] [4, 5]
@[go_sem] theorem r_ingotref11_Decode_15_u : go X (.c r_ingotref11_Decode_15 :: K) s = goR X r_ingotref11_Decode_15_o [4, 5] K s := go_region _ _
@[go_sem] def r_ingotref11_Decode_16_o : List IOper := [
  ⟨(some 45), none, .mv (.t 6)⟩,
  ⟨(some 4), none, .asg (.t 45)⟩,
  ⟨(some 5), none, .asg (.c (.int .i64 0))⟩]
def r_ingotref11_Decode_16 : ICode := .region r_ingotref11_Decode_16_o [] [4, 5]
@[go_sem] theorem r_ingotref11_Decode_16_u : go X (.c r_ingotref11_Decode_16 :: K) s = goR X r_ingotref11_Decode_16_o [4, 5] K s := go_region _ _
def c_ingotref11_Decode : ICode := (.seq r_ingotref11_Decode_0 (.seq r_ingotref11_Decode_1 (.cond (.t 17) (.seq r_ingotref11_Decode_2 .ret) (.seq r_ingotref11_Decode_3 (.seq r_ingotref11_Decode_4 (.seq (.seq r_ingotref11_Decode_5 (.block 0 (.loop b_ingotref11_Decode_13))) (.seq r_ingotref11_Decode_14 (.cond (.t 44) (.seq r_ingotref11_Decode_15 .ret) (.seq r_ingotref11_Decode_16 .ret)))))))))
def i_ingotref11_Decode : IFunc := ⟨2, [.t 4, .t 5], c_ingotref11_Decode⟩
def a_ingotref11_Decode : Advice := ⟨[37], [(15, [4, 5]), (14, [4, 5]), (13, [6, 44]), (7, [0, 1, 6, 7, 8]), (12, [0, 1, 6, 7, 8]), (11, [0, 1, 6, 7, 8, 10]), (10, [4, 5]), (9, [0, 1, 6, 7, 8, 9, 10, 11, 31]), (8, [0, 1, 6, 7, 8, 9, 10, 11]), (6, [0, 1, 6, 7, 8, 20]), (5, [0, 1, 6, 7, 8]), (4, [0, 1, 6, 7]), (3, [0, 1, 6]), (2, [4, 5]), (1, [0, 1, 17]), (0, [0, 1])], [], [], []⟩
/-! ingot/deci.Digits -/
@[go_sem] def r_deci_Digits_0_o : List IOper := [
  ⟨(some 2), none, .asg (.c (.int .i64 0))⟩]
def r_deci_Digits_0 : ICode := .region r_deci_Digits_0_o [] [0]
@[go_sem] theorem r_deci_Digits_0_u : go X (.c r_deci_Digits_0 :: K) s = goR X r_deci_Digits_0_o [0] K s := go_region _ _
@[go_sem] def r_deci_Digits_1_o : List IOper := [
  ⟨(some 3), none, .asg (.c (.int .i64 1))⟩]
def r_deci_Digits_1 : ICode := .region r_deci_Digits_1_o [] [0, 3]
@[go_sem] theorem r_deci_Digits_1_u : go X (.c r_deci_Digits_1 :: K) s = goR X r_deci_Digits_1_o [0, 3] K s := go_region _ _
@[go_sem] def r_deci_Digits_2_o : List IOper := [
  ⟨(some 5), none, .mv (.t 0)⟩,
  ⟨(some 6), none, .call false n_deci_size [(.t 5)]⟩,
  ⟨(some 4), none, .asg (.t 6)⟩]
def r_deci_Digits_2 : ICode := .region r_deci_Digits_2_o [] [3, 4]
@[go_sem] theorem r_deci_Digits_2_u : go X (.c r_deci_Digits_2 :: K) s = goR X r_deci_Digits_2_o [3, 4] K s := go_region _ _
@[go_sem] def r_deci_Digits_3_o : List IOper := [
  ⟨(some 8), none, .mv (.t 4)⟩,
  ⟨(some 9), none, .bin .geq (.t 8) (.c (.int .u64 10000000000000000))⟩,
  ⟨(some 7), none, .asg (.t 9)⟩]
def r_deci_Digits_3 : ICode := .region r_deci_Digits_3_o [] [3, 4, 7]
@[go_sem] theorem r_deci_Digits_3_u : go X (.c r_deci_Digits_3 :: K) s = goR X r_deci_Digits_3_o [3, 4, 7] K s := go_region _ _
@[go_sem] def r_deci_Digits_4_o : List IOper := [
  ⟨(some 11), none, .mv (.t 4)⟩,
  ⟨(some 12), none, .bin .geq (.t 11) (.c (.int .u64 100000000))⟩,
  ⟨(some 10), none, .asg (.t 12)⟩]
def r_deci_Digits_4 : ICode := .region r_deci_Digits_4_o [] [3, 4, 10]
@[go_sem] theorem r_deci_Digits_4_u : go X (.c r_deci_Digits_4 :: K) s = goR X r_deci_Digits_4_o [3, 4, 10] K s := go_region _ _
@[go_sem] def r_deci_Digits_5_o : List IOper := [
  ⟨(some 13), none, .mv (.t 3)⟩,
  ⟨(some 14), none, .bin .add (.t 13) (.c (.int .i64 8))⟩,
  ⟨(some 3), none, .asg (.t 14)⟩]
def r_deci_Digits_5 : ICode := .region r_deci_Digits_5_o [] [3, 4]
@[go_sem] theorem r_deci_Digits_5_u : go X (.c r_deci_Digits_5 :: K) s = goR X r_deci_Digits_5_o [3, 4] K s := go_region _ _
@[go_sem] def r_deci_Digits_6_o : List IOper := [
  ⟨(some 15), none, .mv (.t 4)⟩,
  ⟨(some 16), none, .bin .quo (.t 15) (.c (.int .u64 100000000))⟩,
  ⟨(some 4), none, .asg (.t 16)⟩]
def r_deci_Digits_6 : ICode := .region r_deci_Digits_6_o [] [3, 4]
@[go_sem] theorem r_deci_Digits_6_u : go X (.c r_deci_Digits_6 :: K) s = goR X r_deci_Digits_6_o [3, 4] K s := go_region _ _
@[go_sem] def r_deci_Digits_7_o : List IOper := [
  ⟨(some 17), none, .mv (.t 3)⟩,
  ⟨(some 18), none, .bin .add (.t 17) (.c (.int .i64 8))⟩,
  ⟨(some 3), none, .asg (.t 18)⟩]
def r_deci_Digits_7 : ICode := .region r_deci_Digits_7_o [] [3, 4]
@[go_sem] theorem r_deci_Digits_7_u : go X (.c r_deci_Digits_7 :: K) s = goR X r_deci_Digits_7_o [3, 4] K s := go_region _ _
@[go_sem] def r_deci_Digits_8_o : List IOper := [
  ⟨(some 19), none, .mv (.t 4)⟩,
  ⟨(some 20), none, .bin .quo (.t 19) (.c (.int .u64 100000000))⟩,
  ⟨(some 4), none, .asg (.t 20)⟩]
def r_deci_Digits_8 : ICode := .region r_deci_Digits_8_o [] [3, 4]
@[go_sem] theorem r_deci_Digits_8_u : go X (.c r_deci_Digits_8 :: K) s = goR X r_deci_Digits_8_o [3, 4] K s := go_region _ _
@[go_sem] def r_deci_Digits_9_o : List IOper := [
  ⟨(some 21), none, .mv (.t 4)⟩,
  ⟨(some 22), none, .bin .geq (.t 21) (.c (.int .u64 10))⟩]
def r_deci_Digits_9 : ICode := .region r_deci_Digits_9_o [] [3, 4, 22]
@[go_sem] theorem r_deci_Digits_9_u : go X (.c r_deci_Digits_9 :: K) s = goR X r_deci_Digits_9_o [3, 4, 22] K s := go_region _ _
@[go_sem] def r_deci_Digits_10_o : List IOper := [
  ⟨(some 23), none, .mv (.t 3)⟩,
  ⟨(some 24), none, .bin .add (.t 23) (.c (.int .i64 1))⟩,
  ⟨(some 3), none, .asg (.t 24)⟩]
def r_deci_Digits_10 : ICode := .region r_deci_Digits_10_o [] [3, 4]
@[go_sem] theorem r_deci_Digits_10_u : go X (.c r_deci_Digits_10 :: K) s = goR X r_deci_Digits_10_o [3, 4] K s := go_region _ _
@[go_sem] def r_deci_Digits_11_o : List IOper := [
  ⟨(some 25), none, .mv (.t 4)⟩,
  ⟨(some 26), none, .bin .quo (.t 25) (.c (.int .u64 10))⟩,
  ⟨(some 4), none, .asg (.t 26)⟩]
def r_deci_Digits_11 : ICode := .region r_deci_Digits_11_o [] [3, 4]
@[go_sem] theorem r_deci_Digits_11_u : go X (.c r_deci_Digits_11 :: K) s = goR X r_deci_Digits_11_o [3, 4] K s := go_region _ _
def b_deci_Digits_12 : ICode := (.seq (.seq r_deci_Digits_9 (.cond (.t 22) .skip (.exit 4))) (.block 5 (.seq r_deci_Digits_10 r_deci_Digits_11)))
@[go_sem] theorem b_deci_Digits_12_u : go X (.c b_deci_Digits_12 :: K) s = go X (.c (.seq (.seq r_deci_Digits_9 (.cond (.t 22) .skip (.exit 4))) (.block 5 (.seq r_deci_Digits_10 r_deci_Digits_11))) :: K) s := rfl
@[go_sem] def r_deci_Digits_13_o : List IOper := [
  ⟨(some 27), none, .mv (.t 3)⟩,
  ⟨(some 2), none, .asg (.t 27)⟩]
def r_deci_Digits_13 : ICode := .region r_deci_Digits_13_o [] [2]
@[go_sem] theorem r_deci_Digits_13_u : go X (.c r_deci_Digits_13 :: K) s = goR X r_deci_Digits_13_o [2] K s := go_region _ _
def c_deci_Digits : ICode := (.seq r_deci_Digits_0 (.seq r_deci_Digits_1 (.seq (.seq r_deci_Digits_2 (.block 0 (.seq (.block 3 (.seq (.block 2 (.seq (.block 1 (.seq (.seq (.seq r_deci_Digits_3 (.cond (.t 7) (.exit 1) .skip)) (.seq r_deci_Digits_4 (.cond (.t 10) (.exit 2) .skip))) (.exit 3))) (.seq r_deci_Digits_5 r_deci_Digits_6))) (.seq r_deci_Digits_7 r_deci_Digits_8))) (.seq (.block 4 (.loop b_deci_Digits_12)) (.exit 0))))) (.seq r_deci_Digits_13 .ret))))
def i_deci_Digits : IFunc := ⟨1, [.t 2], c_deci_Digits⟩
def a_deci_Digits : Advice := ⟨[], [(12, [2]), (11, [3, 4]), (10, [3, 4]), (9, [3, 4, 22]), (8, [3, 4]), (7, [3, 4]), (6, [3, 4]), (5, [3, 4]), (4, [3, 4, 10]), (3, [3, 4, 7]), (2, [3, 4]), (1, [0, 3]), (0, [0])], [], [], []⟩
/-! ingot/deci.Compare -/
@[go_sem] def r_deci_Compare_0_o : List IOper := [
  ⟨(some 8), none, .asg (.c (.int .i64 0))⟩]
def r_deci_Compare_0 : ICode := .region r_deci_Compare_0_o [] [0, 1, 2, 3]
@[go_sem] theorem r_deci_Compare_0_u : go X (.c r_deci_Compare_0 :: K) s = goR X r_deci_Compare_0_o [0, 1, 2, 3] K s := go_region _ _
@[go_sem] def r_deci_Compare_1_o : List IOper := [
  ⟨(some 14), none, .mv (.t 1)⟩,
  ⟨(some 15), none, .minmax true [(.t 14), (.c (.int .i64 0))]⟩,
  ⟨(some 16), none, .minmax false [(.t 15), (.c (.int .i64 18))]⟩,
  ⟨(some 17), none, .mv (.t 3)⟩,
  ⟨(some 18), none, .minmax true [(.t 17), (.c (.int .i64 0))]⟩,
  ⟨(some 19), none, .minmax false [(.t 18), (.c (.int .i64 18))]⟩,
  ⟨(some 1), none, .asg (.t 16)⟩,
  ⟨(some 3), none, .asg (.t 19)⟩]
def r_deci_Compare_1 : ICode := .region r_deci_Compare_1_o [] [0, 1, 2, 3]
@[go_sem] theorem r_deci_Compare_1_u : go X (.c r_deci_Compare_1 :: K) s = goR X r_deci_Compare_1_o [0, 1, 2, 3] K s := go_region _ _
@[go_sem] def r_deci_Compare_2_o : List IOper := [
  ⟨(some 21), none, .mv (.t 0)⟩,
  ⟨(some 22), none, .bin .lss (.t 21) (.c (.int .i64 0))⟩,
  ⟨(some 23), none, .mv (.t 22)⟩,
  ⟨(some 24), some (23, true), .mv (.t 2)⟩,
  ⟨(some 25), some (23, true), .bin .geq (.t 24) (.c (.int .i64 0))⟩,
  ⟨(some 26), none, .pick (.t 23) (.t 25) (.c (.bool false))⟩,
  ⟨(some 20), none, .asg (.t 26)⟩]
def r_deci_Compare_2 : ICode := .region r_deci_Compare_2_o [] [0, 1, 2, 3, 20]
@[go_sem] theorem r_deci_Compare_2_u : go X (.c r_deci_Compare_2 :: K) s = goR X r_deci_Compare_2_o [0, 1, 2, 3, 20] K s := go_region _ _
@[go_sem] def r_deci_Compare_3_o : List IOper := [
  ⟨(some 8), none, .asg (.c (.int .i64 (-1)))⟩]
def r_deci_Compare_3 : ICode := .region r_deci_Compare_3_o [] [8]
@[go_sem] theorem r_deci_Compare_3_u : go X (.c r_deci_Compare_3 :: K) s = goR X r_deci_Compare_3_o [8] K s := go_region _ _
@[go_sem] def r_deci_Compare_4_o : List IOper := [
  ⟨(some 28), none, .mv (.t 0)⟩,
  ⟨(some 29), none, .bin .geq (.t 28) (.c (.int .i64 0))⟩,
  ⟨(some 30), none, .mv (.t 29)⟩,
  ⟨(some 31), some (30, true), .mv (.t 2)⟩,
  ⟨(some 32), some (30, true), .bin .lss (.t 31) (.c (.int .i64 0))⟩,
  ⟨(some 33), none, .pick (.t 30) (.t 32) (.c (.bool false))⟩,
  ⟨(some 27), none, .asg (.t 33)⟩]
def r_deci_Compare_4 : ICode := .region r_deci_Compare_4_o [] [0, 1, 2, 3, 27]
@[go_sem] theorem r_deci_Compare_4_u : go X (.c r_deci_Compare_4 :: K) s = goR X r_deci_Compare_4_o [0, 1, 2, 3, 27] K s := go_region _ _
@[go_sem] def r_deci_Compare_5_o : List IOper := [
  ⟨(some 8), none, .asg (.c (.int .i64 1))⟩]
def r_deci_Compare_5 : ICode := .region r_deci_Compare_5_o [] [8]
@[go_sem] theorem r_deci_Compare_5_u : go X (.c r_deci_Compare_5 :: K) s = goR X r_deci_Compare_5_o [8] K s := go_region _ _
@[go_sem] def r_deci_Compare_6_o : List IOper := [
  ⟨(some 35), none, .mv (.t 0)⟩,
  ⟨(some 36), none, .call false n_deci_size [(.t 35)]⟩,
  ⟨(some 37), none, .mv (.t 3)⟩,
  ⟨(some 38), none, .call false n_deci_power [(.t 37)]⟩,
  ⟨(some 39), none, .cvInt .u64 (.t 38)⟩,
  ⟨(some 40), none, .call false n_bits_Mul64 [(.t 36), (.t 39)]⟩,
  ⟨(some 34), none, .mv (.t 40)⟩,
  ⟨(some 41), none, .ext (.t 34) 0⟩,
  ⟨(some 42), none, .ext (.t 34) 1⟩,
  ⟨(some 9), none, .asg (.t 41)⟩,
  ⟨(some 10), none, .asg (.t 42)⟩]
def r_deci_Compare_6 : ICode := .region r_deci_Compare_6_o [] [0, 1, 2, 9, 10]
@[go_sem] theorem r_deci_Compare_6_u : go X (.c r_deci_Compare_6 :: K) s = goR X r_deci_Compare_6_o [0, 1, 2, 9, 10] K s := go_region _ _
@[go_sem] def r_deci_Compare_7_o : List IOper := [
  ⟨(some 44), none, .mv (.t 2)⟩,
  ⟨(some 45), none, .call false n_deci_size [(.t 44)]⟩,
  ⟨(some 46), none, .mv (.t 1)⟩,
  ⟨(some 47), none, .call false n_deci_power [(.t 46)]⟩,
  ⟨(some 48), none, .cvInt .u64 (.t 47)⟩,
  ⟨(some 49), none, .call false n_bits_Mul64 [(.t 45), (.t 48)]⟩,
  ⟨(some 43), none, .mv (.t 49)⟩,
  ⟨(some 50), none, .ext (.t 43) 0⟩,
  ⟨(some 51), none, .ext (.t 43) 1⟩,
  ⟨(some 11), none, .asg (.t 50)⟩,
  ⟨(some 12), none, .asg (.t 51)⟩]
def r_deci_Compare_7 : ICode := .region r_deci_Compare_7_o [] [0, 9, 10, 11, 12]
@[go_sem] theorem r_deci_Compare_7_u : go X (.c r_deci_Compare_7 :: K) s = goR X r_deci_Compare_7_o [0, 9, 10, 11, 12] K s := go_region _ _
@[go_sem] def r_deci_Compare_8_o : List IOper := [
  ⟨(some 13), none, .asg (.c (.int .i64 0))⟩]
def r_deci_Compare_8 : ICode := .region r_deci_Compare_8_o [] [0, 9, 10, 11, 12, 13]
@[go_sem] theorem r_deci_Compare_8_u : go X (.c r_deci_Compare_8 :: K) s = goR X r_deci_Compare_8_o [0, 9, 10, 11, 12, 13] K s := go_region _ _
@[go_sem] def r_deci_Compare_9_o : List IOper := [
  ⟨(some 53), none, .mv (.t 9)⟩,
  ⟨(some 54), none, .mv (.t 11)⟩,
  ⟨(some 55), none, .bin .lss (.t 53) (.t 54)⟩,
  ⟨(some 56), none, .mv (.t 55)⟩,
  ⟨(some 57), some (56, false), .mv (.t 9)⟩,
  ⟨(some 58), some (56, false), .mv (.t 11)⟩,
  ⟨(some 59), some (56, false), .bin .eql (.t 57) (.t 58)⟩,
  ⟨(some 60), some (56, false), .mv (.t 59)⟩,
  ⟨(some 61), some (60, true), .mv (.t 10)⟩,
  ⟨(some 62), some (60, true), .mv (.t 12)⟩,
  ⟨(some 63), some (60, true), .bin .lss (.t 61) (.t 62)⟩,
  ⟨(some 64), some (56, false), .pick (.t 60) (.t 63) (.c (.bool false))⟩,
  ⟨(some 65), none, .pick (.t 56) (.c (.bool true)) (.t 64)⟩,
  ⟨(some 52), none, .asg (.t 65)⟩]
def r_deci_Compare_9 : ICode := .region r_deci_Compare_9_o [] [0, 9, 10, 11, 12, 13, 52]
@[go_sem] theorem r_deci_Compare_9_u : go X (.c r_deci_Compare_9 :: K) s = goR X r_deci_Compare_9_o [0, 9, 10, 11, 12, 13, 52] K s := go_region _ _
@[go_sem] def r_deci_Compare_10_o : List IOper := [
  ⟨(some 13), none, .asg (.c (.int .i64 (-1)))⟩]
def r_deci_Compare_10 : ICode := .region r_deci_Compare_10_o [] [0, 13]
@[go_sem] theorem r_deci_Compare_10_u : go X (.c r_deci_Compare_10 :: K) s = goR X r_deci_Compare_10_o [0, 13] K s := go_region _ _
@[go_sem] def r_deci_Compare_11_o : List IOper := [
  ⟨(some 67), none, .mv (.t 9)⟩,
  ⟨(some 68), none, .mv (.t 11)⟩,
  ⟨(some 69), none, .bin .gtr (.t 67) (.t 68)⟩,
  ⟨(some 70), none, .mv (.t 69)⟩,
  ⟨(some 71), some (70, false), .mv (.t 10)⟩,
  ⟨(some 72), some (70, false), .mv (.t 12)⟩,
  ⟨(some 73), some (70, false), .bin .gtr (.t 71) (.t 72)⟩,
  ⟨(some 74), none, .pick (.t 70) (.c (.bool true)) (.t 73)⟩,
  ⟨(some 66), none, .asg (.t 74)⟩]
def r_deci_Compare_11 : ICode := .region r_deci_Compare_11_o [] [0, 13, 66]
@[go_sem] theorem r_deci_Compare_11_u : go X (.c r_deci_Compare_11 :: K) s = goR X r_deci_Compare_11_o [0, 13, 66] K s := go_region _ _
@[go_sem] def r_deci_Compare_12_o : List IOper := [
  ⟨(some 13), none, .asg (.c (.int .i64 1))⟩]
def r_deci_Compare_12 : ICode := .region r_deci_Compare_12_o [] [0, 13]
@[go_sem] theorem r_deci_Compare_12_u : go X (.c r_deci_Compare_12 :: K) s = goR X r_deci_Compare_12_o [0, 13] K s := go_region _ _
@[go_sem] def r_deci_Compare_13_o : List IOper := [
  ⟨(some 75), none, .mv (.t 0)⟩,
  ⟨(some 76), none, .bin .lss (.t 75) (.c (.int .i64 0))⟩]
def r_deci_Compare_13 : ICode := .region r_deci_Compare_13_o [] [13, 76]
@[go_sem] theorem r_deci_Compare_13_u : go X (.c r_deci_Compare_13 :: K) s = goR X r_deci_Compare_13_o [13, 76] K s := go_region _ _
@[go_sem] def r_deci_Compare_14_o : List IOper := [
  ⟨(some 77), none, .mv (.t 13)⟩,
  ⟨(some 78), none, .un .neg (.t 77)⟩,
  ⟨(some 8), none, .asg (.t 78)⟩]
def r_deci_Compare_14 : ICode := .region r_deci_Compare_14_o [] [8]
@[go_sem] theorem r_deci_Compare_14_u : go X (.c r_deci_Compare_14 :: K) s = goR X r_deci_Compare_14_o [8] K s := go_region _ _
@[go_sem] def r_deci_Compare_15_o : List IOper := [
  ⟨(some 79), none, .mv (.t 13)⟩,
  ⟨(some 8), none, .asg (.t 79)⟩]
def r_deci_Compare_15 : ICode := .region r_deci_Compare_15_o [] [8]
@[go_sem] theorem r_deci_Compare_15_u : go X (.c r_deci_Compare_15 :: K) s = goR X r_deci_Compare_15_o [8] K s := go_region _ _
def c_deci_Compare : ICode := (.seq r_deci_Compare_0 (.seq r_deci_Compare_1 (.seq (.block 0 (.seq r_deci_Compare_2 (.cond (.t 20) (.seq r_deci_Compare_3 .ret) (.seq r_deci_Compare_4 (.cond (.t 27) (.seq r_deci_Compare_5 .ret) .skip))))) (.seq r_deci_Compare_6 (.seq r_deci_Compare_7 (.seq r_deci_Compare_8 (.seq (.block 1 (.seq r_deci_Compare_9 (.cond (.t 52) r_deci_Compare_10 (.seq r_deci_Compare_11 (.cond (.t 66) r_deci_Compare_12 .skip))))) (.seq r_deci_Compare_13 (.cond (.t 76) (.seq r_deci_Compare_14 .ret) (.seq r_deci_Compare_15 .ret))))))))))
def i_deci_Compare : IFunc := ⟨4, [.t 8], c_deci_Compare⟩
def a_deci_Compare : Advice := ⟨[], [(15, [8]), (14, [8]), (13, [13, 76]), (10, [0, 13]), (12, [0, 13]), (11, [0, 13, 66]), (9, [0, 9, 10, 11, 12, 13, 52]), (8, [0, 9, 10, 11, 12, 13]), (7, [0, 9, 10, 11, 12]), (6, [0, 1, 2, 9, 10]), (3, [8]), (5, [8]), (4, [0, 1, 2, 3, 27]), (2, [0, 1, 2, 3, 20]), (1, [0, 1, 2, 3]), (0, [0, 1, 2, 3])], [], [], []⟩
end Go.Proofs.YteckebocflnkdaaDoor
