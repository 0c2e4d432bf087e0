/- The evaluator's code of the functions that the rows reach, printed by program, checked against the program. -/
import Derived.Test.YtpabdojnfiiaoaaDoorL8
import Derived.Test.YtpabdojnfiiaoaaDoorChecked
namespace Go.Proofs.YtpabdojnfiiaoaaDoor
open Go.Ev Go

def n_ingotlaw12_StampNanos : FuncId := 3
def n_ingotlaw12_StampDays : FuncId := 4
def n_ingotlaw12_StampNext : FuncId := 5
def n_ingotlaw12_StampTexts : FuncId := 6
def n_ingotlaw12_StampYears : FuncId := 7
def n_ingotlaw12_StampMonths : FuncId := 8
def n_ingotlaw12_StampWords : FuncId := 9
def n_ingotlaw12_known : FuncId := 10
def n_stamp_Back : FuncId := 11
def n_ingotref12_Back : FuncId := 12
def n_stamp_Check : FuncId := 13
def n_ingotref12_Check : FuncId := 14
def n_stamp_Nano : FuncId := 15
def n_ingotref12_Nano : FuncId := 16
def n_stamp_Days : FuncId := 17
def n_ingotref12_Days : FuncId := 18
def n_stamp_Date : FuncId := 19
def n_ingotref12_Known : FuncId := 20
def n_ingotref12_Date : FuncId := 21
def n_stamp_Seconds : FuncId := 22
def n_ingotref12_Seconds : FuncId := 23
def n_ingotref12_Split : FuncId := 24
def n_stamp_Text : FuncId := 25
def n_ingotref12_Text : FuncId := 26
def n_stamp_length : FuncId := 27
def n_ingotref12_month : FuncId := 28
def n_ingotref12_first : FuncId := 29
def n_ingotref12_floor : FuncId := 30
def n_stamp_pad : FuncId := 31
def n_strings_TrimRight : FuncId := 32
def n_ingotref12_Day : FuncId := 33
def n_ingotref12_pad : FuncId := 34
def n_stamp_leap : FuncId := 35
def n_ingotref12_leap : FuncId := 36
def n_strconv_Itoa : FuncId := 37
def n_strings_Repeat : FuncId := 38
def n_strings_trimRightByte : FuncId := 39
def n_strings_makeASCIISet : FuncId := 40
def n_strings_trimRightASCII : FuncId := 41
def n_strings_trimRightUnicode : FuncId := 42
def n_Pstrings_asciiSet_contains : FuncId := 50
def n_utf8_DecodeLastRuneInString : FuncId := 51
def n_strings_ContainsRune : FuncId := 52
def n_utf8_RuneStart : FuncId := 59
def n_utf8_DecodeRuneInString : FuncId := 60
def n_strings_IndexRune : FuncId := 61
def n_utf8_decodeRuneInStringSlow : FuncId := 68
def n_strings_IndexByte : FuncId := 69
def n_utf8_ValidRune : FuncId := 70
def n_stringslite_IndexByte : FuncId := 78
def n_bytealg_IndexByteString : FuncId := 81
/-! ingot/ingotlaw12.StampWords -/
@[go_sem] def r_ingotlaw12_StampWords_0_o : List IOper := [
  ⟨(some 8), none, .asg (.c (.bool false))⟩]
def r_ingotlaw12_StampWords_0 : ICode := .region r_ingotlaw12_StampWords_0_o [] [0, 1, 2, 3]
@[go_sem] theorem r_ingotlaw12_StampWords_0_u {X : Kx} {K : List Kf} {s : St} : go X (.c r_ingotlaw12_StampWords_0 :: K) s = goR X r_ingotlaw12_StampWords_0_o [0, 1, 2, 3] K s := go_region _ _
@[go_sem] def r_ingotlaw12_StampWords_1_o : List IOper := [
  ⟨(some 13), none, .call false n_ingotlaw12_known []⟩,
  ⟨(some 14), none, .un .not (.t 13)⟩]
def r_ingotlaw12_StampWords_1 : ICode := .region r_ingotlaw12_StampWords_1_o [] [0, 1, 2, 3, 14]
@[go_sem] theorem r_ingotlaw12_StampWords_1_u {X : Kx} {K : List Kf} {s : St} : go X (.c r_ingotlaw12_StampWords_1 :: K) s = goR X r_ingotlaw12_StampWords_1_o [0, 1, 2, 3, 14] K s := go_region _ _
@[go_sem] def r_ingotlaw12_StampWords_2_o : List IOper := [
  ⟨(some 8), none, .asg (.c (.bool false))⟩]
def r_ingotlaw12_StampWords_2 : ICode := .region r_ingotlaw12_StampWords_2_o [] [8]
@[go_sem] theorem r_ingotlaw12_StampWords_2_u {X : Kx} {K : List Kf} {s : St} : go X (.c r_ingotlaw12_StampWords_2 :: K) s = goR X r_ingotlaw12_StampWords_2_o [8] K s := go_region _ _
@[go_sem] def r_ingotlaw12_StampWords_3_o : List IOper := [
  ⟨(some 15), none, .mv (.t 0)⟩,
  ⟨(some 16), none, .bin .lss (.t 15) (.c (.int .i64 (-62135596800)))⟩,
  ⟨(some 17), none, .mv (.t 16)⟩,
  ⟨(some 18), some (17, false), .mv (.t 0)⟩,
  ⟨(some 19), some (17, false), .bin .gtr (.t 18) (.c (.int .i64 253402300799))⟩,
  ⟨(some 20), none, .pick (.t 17) (.c (.bool true)) (.t 19)⟩,
  ⟨(some 21), none, .mv (.t 20)⟩,
  ⟨(some 22), some (21, false), .mv (.t 2)⟩,
  ⟨(some 23), some (21, false), .bin .lss (.t 22) (.c (.int .i64 (-62135596800)))⟩,
  ⟨(some 24), none, .pick (.t 21) (.c (.bool true)) (.t 23)⟩,
  ⟨(some 25), none, .mv (.t 24)⟩,
  ⟨(some 26), some (25, false), .mv (.t 2)⟩,
  ⟨(some 27), some (25, false), .bin .gtr (.t 26) (.c (.int .i64 253402300799))⟩,
  ⟨(some 28), none, .pick (.t 25) (.c (.bool true)) (.t 27)⟩,
  ⟨(some 29), none, .mv (.t 28)⟩,
  ⟨(some 30), some (29, false), .mv (.t 1)⟩,
  ⟨(some 31), some (29, false), .bin .lss (.t 30) (.c (.int .i64 0))⟩,
  ⟨(some 32), none, .pick (.t 29) (.c (.bool true)) (.t 31)⟩,
  ⟨(some 33), none, .mv (.t 32)⟩,
  ⟨(some 34), some (33, false), .mv (.t 1)⟩,
  ⟨(some 35), some (33, false), .bin .gtr (.t 34) (.c (.int .i64 999999999))⟩,
  ⟨(some 36), none, .pick (.t 33) (.c (.bool true)) (.t 35)⟩,
  ⟨(some 37), none, .mv (.t 36)⟩,
  ⟨(some 38), some (37, false), .mv (.t 3)⟩,
  ⟨(some 39), some (37, false), .bin .lss (.t 38) (.c (.int .i64 0))⟩,
  ⟨(some 40), none, .pick (.t 37) (.c (.bool true)) (.t 39)⟩,
  ⟨(some 41), none, .mv (.t 40)⟩,
  ⟨(some 42), some (41, false), .mv (.t 3)⟩,
  ⟨(some 43), some (41, false), .bin .gtr (.t 42) (.c (.int .i64 999999999))⟩,
  ⟨(some 44), none, .pick (.t 41) (.c (.bool true)) (.t 43)⟩]
def r_ingotlaw12_StampWords_3 : ICode := .region r_ingotlaw12_StampWords_3_o [] [0, 1, 2, 3, 44]
@[go_sem] theorem r_ingotlaw12_StampWords_3_u {X : Kx} {K : List Kf} {s : St} : go X (.c r_ingotlaw12_StampWords_3 :: K) s = goR X r_ingotlaw12_StampWords_3_o [0, 1, 2, 3, 44] K s := go_region _ _
@[go_sem] def r_ingotlaw12_StampWords_4_o : List IOper := [
  ⟨(some 8), none, .asg (.c (.bool true))⟩]
def r_ingotlaw12_StampWords_4 : ICode := .region r_ingotlaw12_StampWords_4_o [] [8]
@[go_sem] theorem r_ingotlaw12_StampWords_4_u {X : Kx} {K : List Kf} {s : St} : go X (.c r_ingotlaw12_StampWords_4 :: K) s = goR X r_ingotlaw12_StampWords_4_o [8] K s := go_region _ _
@[go_sem] def r_ingotlaw12_StampWords_5_o : List IOper := [
  ⟨(some 45), none, .mv (.t 0)⟩,
  ⟨(some 46), none, .mv (.t 1)⟩,
  ⟨(some 47), none, .call false n_stamp_Text [(.t 45), (.t 46)]⟩,
  ⟨(some 9), none, .asg (.t 47)⟩]
def r_ingotlaw12_StampWords_5 : ICode := .region r_ingotlaw12_StampWords_5_o [] [0, 1, 2, 3, 9]
@[go_sem] theorem r_ingotlaw12_StampWords_5_u {X : Kx} {K : List Kf} {s : St} : go X (.c r_ingotlaw12_StampWords_5 :: K) s = goR X r_ingotlaw12_StampWords_5_o [0, 1, 2, 3, 9] K s := go_region _ _
@[go_sem] def r_ingotlaw12_StampWords_6_o : List IOper := [
  ⟨(some 48), none, .mv (.t 2)⟩,
  ⟨(some 49), none, .mv (.t 3)⟩,
  ⟨(some 50), none, .call false n_stamp_Text [(.t 48), (.t 49)]⟩,
  ⟨(some 10), none, .asg (.t 50)⟩]
def r_ingotlaw12_StampWords_6 : ICode := .region r_ingotlaw12_StampWords_6_o [] [0, 1, 2, 3, 9, 10]
@[go_sem] theorem r_ingotlaw12_StampWords_6_u {X : Kx} {K : List Kf} {s : St} : go X (.c r_ingotlaw12_StampWords_6 :: K) s = goR X r_ingotlaw12_StampWords_6_o [0, 1, 2, 3, 9, 10] K s := go_region _ _
@[go_sem] def r_ingotlaw12_StampWords_7_o : List IOper := [
  ⟨(some 51), none, .mv (.t 0)⟩,
  ⟨(some 52), none, .mv (.t 2)⟩,
  ⟨(some 53), none, .bin .lss (.t 51) (.t 52)⟩,
  ⟨(some 54), none, .mv (.t 53)⟩,
  ⟨(some 55), some (54, false), .mv (.t 0)⟩,
  ⟨(some 56), some (54, false), .mv (.t 2)⟩,
  ⟨(some 57), some (54, false), .bin .eql (.t 55) (.t 56)⟩,
  ⟨(some 58), some (54, false), .mv (.t 57)⟩,
  ⟨(some 59), some (58, true), .mv (.t 1)⟩,
  ⟨(some 60), some (58, true), .mv (.t 3)⟩,
  ⟨(some 61), some (58, true), .bin .lss (.t 59) (.t 60)⟩,
  ⟨(some 62), some (54, false), .pick (.t 58) (.t 61) (.c (.bool false))⟩,
  ⟨(some 63), none, .pick (.t 54) (.c (.bool true)) (.t 62)⟩,
  ⟨(some 11), none, .asg (.t 63)⟩]
def r_ingotlaw12_StampWords_7 : ICode := .region r_ingotlaw12_StampWords_7_o [] [0, 1, 2, 3, 9, 10, 11]
@[go_sem] theorem r_ingotlaw12_StampWords_7_u {X : Kx} {K : List Kf} {s : St} : go X (.c r_ingotlaw12_StampWords_7 :: K) s = goR X r_ingotlaw12_StampWords_7_o [0, 1, 2, 3, 9, 10, 11] K s := go_region _ _
@[go_sem] def r_ingotlaw12_StampWords_8_o : List IOper := [
  ⟨(some 64), none, .mv (.t 0)⟩,
  ⟨(some 65), none, .mv (.t 2)⟩,
  ⟨(some 66), none, .bin .eql (.t 64) (.t 65)⟩,
  ⟨(some 67), none, .mv (.t 66)⟩,
  ⟨(some 68), some (67, true), .mv (.t 1)⟩,
  ⟨(some 69), some (67, true), .mv (.t 3)⟩,
  ⟨(some 70), some (67, true), .bin .eql (.t 68) (.t 69)⟩,
  ⟨(some 71), none, .pick (.t 67) (.t 70) (.c (.bool false))⟩,
  ⟨(some 12), none, .asg (.t 71)⟩]
def r_ingotlaw12_StampWords_8 : ICode := .region r_ingotlaw12_StampWords_8_o [] [0, 1, 9, 10, 11, 12]
@[go_sem] theorem r_ingotlaw12_StampWords_8_u {X : Kx} {K : List Kf} {s : St} : go X (.c r_ingotlaw12_StampWords_8 :: K) s = goR X r_ingotlaw12_StampWords_8_o [0, 1, 9, 10, 11, 12] K s := go_region _ _
@[go_sem] def r_ingotlaw12_StampWords_9_o : List IOper := [
  ⟨(some 72), none, .mv (.t 9)⟩,
  ⟨(some 73), none, .mv (.t 0)⟩,
  ⟨(some 74), none, .mv (.t 1)⟩,
  ⟨(some 75), none, .call false n_ingotref12_Text [(.t 73), (.t 74)]⟩,
  ⟨(some 76), none, .bin .eql (.t 72) (.t 75)⟩,
  ⟨(some 77), none, .mv (.t 76)⟩,
  ⟨(some 78), some (77, true), .mv (.t 9)⟩,
  ⟨(some 79), some (77, true), .mv (.t 10)⟩,
  ⟨(some 80), some (77, true), .bin .lss (.t 78) (.t 79)⟩,
  ⟨(some 81), some (77, true), .mv (.t 11)⟩,
  ⟨(some 82), some (77, true), .eqn false .bool (.t 80) (.t 81)⟩,
  ⟨(some 83), none, .pick (.t 77) (.t 82) (.c (.bool false))⟩,
  ⟨(some 84), none, .mv (.t 83)⟩,
  ⟨(some 85), some (84, true), .mv (.t 9)⟩,
  ⟨(some 86), some (84, true), .mv (.t 10)⟩,
  ⟨(some 87), some (84, true), .bin .eql (.t 85) (.t 86)⟩,
  ⟨(some 88), some (84, true), .mv (.t 12)⟩,
  ⟨(some 89), some (84, true), .eqn false .bool (.t 87) (.t 88)⟩,
  ⟨(some 90), none, .pick (.t 84) (.t 89) (.c (.bool false))⟩,
  ⟨(some 8), none, .asg (.t 90)⟩]
def r_ingotlaw12_StampWords_9 : ICode := .region r_ingotlaw12_StampWords_9_o [] [8]
@[go_sem] theorem r_ingotlaw12_StampWords_9_u {X : Kx} {K : List Kf} {s : St} : go X (.c r_ingotlaw12_StampWords_9 :: K) s = goR X r_ingotlaw12_StampWords_9_o [8] K s := go_region _ _
def c_ingotlaw12_StampWords : ICode := (.seq r_ingotlaw12_StampWords_0 (.seq (.seq r_ingotlaw12_StampWords_1 (.cond (.t 14) (.seq r_ingotlaw12_StampWords_2 .ret) .skip)) (.seq (.seq r_ingotlaw12_StampWords_3 (.cond (.t 44) (.seq r_ingotlaw12_StampWords_4 .ret) .skip)) (.seq r_ingotlaw12_StampWords_5 (.seq r_ingotlaw12_StampWords_6 (.seq r_ingotlaw12_StampWords_7 (.seq r_ingotlaw12_StampWords_8 (.seq r_ingotlaw12_StampWords_9 .ret))))))))
def i_ingotlaw12_StampWords : IFunc := ⟨4, [.t 8], c_ingotlaw12_StampWords⟩
def a_ingotlaw12_StampWords : Advice := ⟨[], [(9, [8]), (8, [0, 1, 9, 10, 11, 12]), (7, [0, 1, 2, 3, 9, 10, 11]), (6, [0, 1, 2, 3, 9, 10]), (5, [0, 1, 2, 3, 9]), (4, [8]), (3, [0, 1, 2, 3, 44]), (2, [8]), (1, [0, 1, 2, 3, 14]), (0, [0, 1, 2, 3])], [], []⟩
/-! ingot/ingotlaw12.StampMonths -/
@[go_sem] def r_ingotlaw12_StampMonths_0_o : List IOper := [
  ⟨(some 4), none, .asg (.c (.bool false))⟩]
def r_ingotlaw12_StampMonths_0 : ICode := .region r_ingotlaw12_StampMonths_0_o [] [0, 1]
@[go_sem] theorem r_ingotlaw12_StampMonths_0_u {X : Kx} {K : List Kf} {s : St} : go X (.c r_ingotlaw12_StampMonths_0 :: K) s = goR X r_ingotlaw12_StampMonths_0_o [0, 1] K s := go_region _ _
@[go_sem] def r_ingotlaw12_StampMonths_1_o : List IOper := [
  ⟨(some 13), none, .call false n_ingotlaw12_known []⟩,
  ⟨(some 14), none, .un .not (.t 13)⟩]
def r_ingotlaw12_StampMonths_1 : ICode := .region r_ingotlaw12_StampMonths_1_o [] [0, 1, 14]
@[go_sem] theorem r_ingotlaw12_StampMonths_1_u {X : Kx} {K : List Kf} {s : St} : go X (.c r_ingotlaw12_StampMonths_1 :: K) s = goR X r_ingotlaw12_StampMonths_1_o [0, 1, 14] K s := go_region _ _
@[go_sem] def r_ingotlaw12_StampMonths_2_o : List IOper := [
  ⟨(some 4), none, .asg (.c (.bool false))⟩]
def r_ingotlaw12_StampMonths_2 : ICode := .region r_ingotlaw12_StampMonths_2_o [] [4]
@[go_sem] theorem r_ingotlaw12_StampMonths_2_u {X : Kx} {K : List Kf} {s : St} : go X (.c r_ingotlaw12_StampMonths_2 :: K) s = goR X r_ingotlaw12_StampMonths_2_o [4] K s := go_region _ _
@[go_sem] def r_ingotlaw12_StampMonths_3_o : List IOper := [
  ⟨(some 15), none, .mv (.t 0)⟩,
  ⟨(some 16), none, .bin .lss (.t 15) (.c (.int .i64 (-9999)))⟩,
  ⟨(some 17), none, .mv (.t 16)⟩,
  ⟨(some 18), some (17, false), .mv (.t 0)⟩,
  ⟨(some 19), some (17, false), .bin .gtr (.t 18) (.c (.int .i64 9999))⟩,
  ⟨(some 20), none, .pick (.t 17) (.c (.bool true)) (.t 19)⟩,
  ⟨(some 21), none, .mv (.t 20)⟩,
  ⟨(some 22), some (21, false), .mv (.t 1)⟩,
  ⟨(some 23), some (21, false), .bin .lss (.t 22) (.c (.int .i64 1))⟩,
  ⟨(some 24), none, .pick (.t 21) (.c (.bool true)) (.t 23)⟩,
  ⟨(some 25), none, .mv (.t 24)⟩,
  ⟨(some 26), some (25, false), .mv (.t 1)⟩,
  ⟨(some 27), some (25, false), .bin .gtr (.t 26) (.c (.int .i64 11))⟩,
  ⟨(some 28), none, .pick (.t 25) (.c (.bool true)) (.t 27)⟩]
def r_ingotlaw12_StampMonths_3 : ICode := .region r_ingotlaw12_StampMonths_3_o [] [0, 1, 28]
@[go_sem] theorem r_ingotlaw12_StampMonths_3_u {X : Kx} {K : List Kf} {s : St} : go X (.c r_ingotlaw12_StampMonths_3 :: K) s = goR X r_ingotlaw12_StampMonths_3_o [0, 1, 28] K s := go_region _ _
@[go_sem] def r_ingotlaw12_StampMonths_4_o : List IOper := [
  ⟨(some 4), none, .asg (.c (.bool true))⟩]
def r_ingotlaw12_StampMonths_4 : ICode := .region r_ingotlaw12_StampMonths_4_o [] [4]
@[go_sem] theorem r_ingotlaw12_StampMonths_4_u {X : Kx} {K : List Kf} {s : St} : go X (.c r_ingotlaw12_StampMonths_4 :: K) s = goR X r_ingotlaw12_StampMonths_4_o [4] K s := go_region _ _
@[go_sem] def r_ingotlaw12_StampMonths_5_o : List IOper := [
  ⟨(some 5), none, .asg (.c (.int .i64 0))⟩]
def r_ingotlaw12_StampMonths_5 : ICode := .region r_ingotlaw12_StampMonths_5_o [] [0, 1, 5]
@[go_sem] theorem r_ingotlaw12_StampMonths_5_u {X : Kx} {K : List Kf} {s : St} : go X (.c r_ingotlaw12_StampMonths_5 :: K) s = goR X r_ingotlaw12_StampMonths_5_o [0, 1, 5] K s := go_region _ _
@[go_sem] def r_ingotlaw12_StampMonths_6_o : List IOper := [
  ⟨(some 6), none, .asg (.c (.int .i64 1))⟩]
def r_ingotlaw12_StampMonths_6 : ICode := .region r_ingotlaw12_StampMonths_6_o [] [0, 1, 5, 6]
@[go_sem] theorem r_ingotlaw12_StampMonths_6_u {X : Kx} {K : List Kf} {s : St} : go X (.c r_ingotlaw12_StampMonths_6 :: K) s = goR X r_ingotlaw12_StampMonths_6_o [0, 1, 5, 6] K s := go_region _ _
@[go_sem] def r_ingotlaw12_StampMonths_7_o : List IOper := [
  ⟨(some 29), none, .mv (.t 6)⟩,
  ⟨(some 30), none, .bin .leq (.t 29) (.c (.int .i64 32))⟩]
def r_ingotlaw12_StampMonths_7 : ICode := .region r_ingotlaw12_StampMonths_7_o [] [0, 1, 5, 6, 30]
@[go_sem] theorem r_ingotlaw12_StampMonths_7_u {X : Kx} {K : List Kf} {s : St} : go X (.c r_ingotlaw12_StampMonths_7 :: K) s = goR X r_ingotlaw12_StampMonths_7_o [0, 1, 5, 6, 30] K s := go_region _ _
@[go_sem] def r_ingotlaw12_StampMonths_8_o : List IOper := [
  ⟨(some 34), none, .mv (.t 0)⟩,
  ⟨(some 35), none, .mv (.t 1)⟩,
  ⟨(some 36), none, .mv (.t 6)⟩,
  ⟨(some 37), none, .call false n_stamp_Days [(.t 34), (.t 35), (.t 36)]⟩,
  ⟨(some 33), none, .mv (.t 37)⟩,
  ⟨(some 38), none, .ext (.t 33) 0⟩,
  ⟨(some 39), none, .ext (.t 33) 1⟩,
  ⟨(some 7), none, .asg (.t 38)⟩,
  ⟨(some 8), none, .asg (.t 39)⟩]
def r_ingotlaw12_StampMonths_8 : ICode := .region r_ingotlaw12_StampMonths_8_o [] [0, 1, 5, 6, 8]
@[go_sem] theorem r_ingotlaw12_StampMonths_8_u {X : Kx} {K : List Kf} {s : St} : go X (.c r_ingotlaw12_StampMonths_8 :: K) s = goR X r_ingotlaw12_StampMonths_8_o [0, 1, 5, 6, 8] K s := go_region _ _
@[go_sem] def r_ingotlaw12_StampMonths_9_o : List IOper := [
  ⟨(some 40), none, .mv (.t 8)⟩]
def r_ingotlaw12_StampMonths_9 : ICode := .region r_ingotlaw12_StampMonths_9_o [] [0, 1, 5, 6, 40]
@[go_sem] theorem r_ingotlaw12_StampMonths_9_u {X : Kx} {K : List Kf} {s : St} : go X (.c r_ingotlaw12_StampMonths_9 :: K) s = goR X r_ingotlaw12_StampMonths_9_o [0, 1, 5, 6, 40] K s := go_region _ _
@[go_sem] def r_ingotlaw12_StampMonths_10_o : List IOper := [
  ⟨(some 41), none, .mv (.t 6)⟩,
  ⟨(some 42), none, .mv (.t 5)⟩,
  ⟨(some 43), none, .bin .add (.t 42) (.c (.int .i64 1))⟩,
  ⟨(some 44), none, .bin .neq (.t 41) (.t 43)⟩]
def r_ingotlaw12_StampMonths_10 : ICode := .region r_ingotlaw12_StampMonths_10_o [] [0, 1, 6, 44]
@[go_sem] theorem r_ingotlaw12_StampMonths_10_u {X : Kx} {K : List Kf} {s : St} : go X (.c r_ingotlaw12_StampMonths_10 :: K) s = goR X r_ingotlaw12_StampMonths_10_o [0, 1, 6, 44] K s := go_region _ _
@[go_sem] def r_ingotlaw12_StampMonths_11_o : List IOper := [
  ⟨(some 4), none, .asg (.c (.bool false))⟩]
def r_ingotlaw12_StampMonths_11 : ICode := .region r_ingotlaw12_StampMonths_11_o [] [4]
@[go_sem] theorem r_ingotlaw12_StampMonths_11_u {X : Kx} {K : List Kf} {s : St} : go X (.c r_ingotlaw12_StampMonths_11 :: K) s = goR X r_ingotlaw12_StampMonths_11_o [4] K s := go_region _ _
@[go_sem] def r_ingotlaw12_StampMonths_12_o : List IOper := [
  ⟨(some 45), none, .mv (.t 6)⟩,
  ⟨(some 5), none, .asg (.t 45)⟩]
def r_ingotlaw12_StampMonths_12 : ICode := .region r_ingotlaw12_StampMonths_12_o [] [0, 1, 5, 6]
@[go_sem] theorem r_ingotlaw12_StampMonths_12_u {X : Kx} {K : List Kf} {s : St} : go X (.c r_ingotlaw12_StampMonths_12 :: K) s = goR X r_ingotlaw12_StampMonths_12_o [0, 1, 5, 6] K s := go_region _ _
@[go_sem] def r_ingotlaw12_StampMonths_13_o : List IOper := [
  ⟨(some 31), none, .mv (.t 6)⟩,
  ⟨(some 32), none, .bin .add (.t 31) (.c (.int .i64 1))⟩,
  ⟨(some 6), none, .asg (.t 32)⟩]
def r_ingotlaw12_StampMonths_13 : ICode := .region r_ingotlaw12_StampMonths_13_o [] [0, 1, 5, 6]
@[go_sem] theorem r_ingotlaw12_StampMonths_13_u {X : Kx} {K : List Kf} {s : St} : go X (.c r_ingotlaw12_StampMonths_13 :: K) s = goR X r_ingotlaw12_StampMonths_13_o [0, 1, 5, 6] K s := go_region _ _
def b_ingotlaw12_StampMonths_14 : ICode := (.seq (.seq r_ingotlaw12_StampMonths_7 (.cond (.t 30) .skip (.exit 0))) (.seq (.block 1 (.seq r_ingotlaw12_StampMonths_8 (.seq r_ingotlaw12_StampMonths_9 (.cond (.t 40) (.seq (.seq r_ingotlaw12_StampMonths_10 (.cond (.t 44) (.seq r_ingotlaw12_StampMonths_11 .ret) .skip)) r_ingotlaw12_StampMonths_12) .skip)))) r_ingotlaw12_StampMonths_13))
@[go_sem] theorem b_ingotlaw12_StampMonths_14_u {X : Kx} {K : List Kf} {s : St} : go X (.c b_ingotlaw12_StampMonths_14 :: K) s = go X (.c (.seq (.seq r_ingotlaw12_StampMonths_7 (.cond (.t 30) .skip (.exit 0))) (.seq (.block 1 (.seq r_ingotlaw12_StampMonths_8 (.seq r_ingotlaw12_StampMonths_9 (.cond (.t 40) (.seq (.seq r_ingotlaw12_StampMonths_10 (.cond (.t 44) (.seq r_ingotlaw12_StampMonths_11 .ret) .skip)) r_ingotlaw12_StampMonths_12) .skip)))) r_ingotlaw12_StampMonths_13)) :: K) s := rfl
@[go_sem] def r_ingotlaw12_StampMonths_15_o : List IOper := [
  ⟨(some 47), none, .mv (.t 0)⟩,
  ⟨(some 48), none, .mv (.t 1)⟩,
  ⟨(some 49), none, .mv (.t 5)⟩,
  ⟨(some 50), none, .call false n_stamp_Days [(.t 47), (.t 48), (.t 49)]⟩,
  ⟨(some 46), none, .mv (.t 50)⟩,
  ⟨(some 51), none, .ext (.t 46) 0⟩,
  ⟨(some 52), none, .ext (.t 46) 1⟩,
  ⟨(some 9), none, .asg (.t 51)⟩,
  ⟨(some 10), none, .asg (.t 52)⟩]
def r_ingotlaw12_StampMonths_15 : ICode := .region r_ingotlaw12_StampMonths_15_o [] [0, 1, 5, 9]
@[go_sem] theorem r_ingotlaw12_StampMonths_15_u {X : Kx} {K : List Kf} {s : St} : go X (.c r_ingotlaw12_StampMonths_15 :: K) s = goR X r_ingotlaw12_StampMonths_15_o [0, 1, 5, 9] K s := go_region _ _
@[go_sem] def r_ingotlaw12_StampMonths_16_o : List IOper := [
  ⟨(some 54), none, .mv (.t 0)⟩,
  ⟨(some 55), none, .mv (.t 1)⟩,
  ⟨(some 56), none, .bin .add (.t 55) (.c (.int .i64 1))⟩,
  ⟨(some 57), none, .call false n_stamp_Days [(.t 54), (.t 56), (.c (.int .i64 1))]⟩,
  ⟨(some 53), none, .mv (.t 57)⟩,
  ⟨(some 58), none, .ext (.t 53) 0⟩,
  ⟨(some 59), none, .ext (.t 53) 1⟩,
  ⟨(some 11), none, .asg (.t 58)⟩,
  ⟨(some 12), none, .asg (.t 59)⟩]
def r_ingotlaw12_StampMonths_16 : ICode := .region r_ingotlaw12_StampMonths_16_o [] [5, 9, 11]
@[go_sem] theorem r_ingotlaw12_StampMonths_16_u {X : Kx} {K : List Kf} {s : St} : go X (.c r_ingotlaw12_StampMonths_16 :: K) s = goR X r_ingotlaw12_StampMonths_16_o [5, 9, 11] K s := go_region _ _
@[go_sem] def r_ingotlaw12_StampMonths_17_o : List IOper := [
  ⟨(some 60), none, .mv (.t 5)⟩,
  ⟨(some 61), none, .bin .geq (.t 60) (.c (.int .i64 28))⟩,
  ⟨(some 62), none, .mv (.t 61)⟩,
  ⟨(some 63), some (62, true), .mv (.t 5)⟩,
  ⟨(some 64), some (62, true), .bin .leq (.t 63) (.c (.int .i64 31))⟩,
  ⟨(some 65), none, .pick (.t 62) (.t 64) (.c (.bool false))⟩,
  ⟨(some 66), none, .mv (.t 65)⟩,
  ⟨(some 67), some (66, true), .mv (.t 11)⟩,
  ⟨(some 68), some (66, true), .mv (.t 9)⟩,
  ⟨(some 69), some (66, true), .bin .add (.t 68) (.c (.int .i64 1))⟩,
  ⟨(some 70), some (66, true), .bin .eql (.t 67) (.t 69)⟩,
  ⟨(some 71), none, .pick (.t 66) (.t 70) (.c (.bool false))⟩,
  ⟨(some 4), none, .asg (.t 71)⟩]
def r_ingotlaw12_StampMonths_17 : ICode := .region r_ingotlaw12_StampMonths_17_o [] [4]
@[go_sem] theorem r_ingotlaw12_StampMonths_17_u {X : Kx} {K : List Kf} {s : St} : go X (.c r_ingotlaw12_StampMonths_17 :: K) s = goR X r_ingotlaw12_StampMonths_17_o [4] K s := go_region _ _
def c_ingotlaw12_StampMonths : ICode := (.seq r_ingotlaw12_StampMonths_0 (.seq (.seq r_ingotlaw12_StampMonths_1 (.cond (.t 14) (.seq r_ingotlaw12_StampMonths_2 .ret) .skip)) (.seq (.seq r_ingotlaw12_StampMonths_3 (.cond (.t 28) (.seq r_ingotlaw12_StampMonths_4 .ret) .skip)) (.seq r_ingotlaw12_StampMonths_5 (.seq (.seq r_ingotlaw12_StampMonths_6 (.block 0 (.loop b_ingotlaw12_StampMonths_14))) (.seq r_ingotlaw12_StampMonths_15 (.seq r_ingotlaw12_StampMonths_16 (.seq r_ingotlaw12_StampMonths_17 .ret))))))))
def i_ingotlaw12_StampMonths : IFunc := ⟨2, [.t 4], c_ingotlaw12_StampMonths⟩
def a_ingotlaw12_StampMonths : Advice := ⟨[], [(16, [4]), (15, [5, 9, 11]), (14, [0, 1, 5, 9]), (8, [0, 1, 5, 6]), (13, [0, 1, 5, 6]), (12, [4]), (11, [0, 1, 6, 44]), (10, [0, 1, 5, 6, 40]), (9, [0, 1, 5, 6, 8]), (7, [0, 1, 5, 6, 30]), (6, [0, 1, 5, 6]), (5, [0, 1, 5]), (4, [4]), (3, [0, 1, 28]), (2, [4]), (1, [0, 1, 14]), (0, [0, 1])], [], []⟩
/-! ingot/ingotlaw12.StampYears -/
@[go_sem] def r_ingotlaw12_StampYears_0_o : List IOper := [
  ⟨(some 2), none, .asg (.c (.bool false))⟩]
def r_ingotlaw12_StampYears_0 : ICode := .region r_ingotlaw12_StampYears_0_o [] [0]
@[go_sem] theorem r_ingotlaw12_StampYears_0_u {X : Kx} {K : List Kf} {s : St} : go X (.c r_ingotlaw12_StampYears_0 :: K) s = goR X r_ingotlaw12_StampYears_0_o [0] K s := go_region _ _
@[go_sem] def r_ingotlaw12_StampYears_1_o : List IOper := [
  ⟨(some 12), none, .call false n_ingotlaw12_known []⟩,
  ⟨(some 13), none, .un .not (.t 12)⟩]
def r_ingotlaw12_StampYears_1 : ICode := .region r_ingotlaw12_StampYears_1_o [] [0, 13]
@[go_sem] theorem r_ingotlaw12_StampYears_1_u {X : Kx} {K : List Kf} {s : St} : go X (.c r_ingotlaw12_StampYears_1 :: K) s = goR X r_ingotlaw12_StampYears_1_o [0, 13] K s := go_region _ _
@[go_sem] def r_ingotlaw12_StampYears_2_o : List IOper := [
  ⟨(some 2), none, .asg (.c (.bool false))⟩]
def r_ingotlaw12_StampYears_2 : ICode := .region r_ingotlaw12_StampYears_2_o [] [2]
@[go_sem] theorem r_ingotlaw12_StampYears_2_u {X : Kx} {K : List Kf} {s : St} : go X (.c r_ingotlaw12_StampYears_2 :: K) s = goR X r_ingotlaw12_StampYears_2_o [2] K s := go_region _ _
@[go_sem] def r_ingotlaw12_StampYears_3_o : List IOper := [
  ⟨(some 14), none, .mv (.t 0)⟩,
  ⟨(some 15), none, .bin .lss (.t 14) (.c (.int .i64 (-9999)))⟩,
  ⟨(some 16), none, .mv (.t 15)⟩,
  ⟨(some 17), some (16, false), .mv (.t 0)⟩,
  ⟨(some 18), some (16, false), .bin .gtr (.t 17) (.c (.int .i64 9998))⟩,
  ⟨(some 19), none, .pick (.t 16) (.c (.bool true)) (.t 18)⟩]
def r_ingotlaw12_StampYears_3 : ICode := .region r_ingotlaw12_StampYears_3_o [] [0, 19]
@[go_sem] theorem r_ingotlaw12_StampYears_3_u {X : Kx} {K : List Kf} {s : St} : go X (.c r_ingotlaw12_StampYears_3 :: K) s = goR X r_ingotlaw12_StampYears_3_o [0, 19] K s := go_region _ _
@[go_sem] def r_ingotlaw12_StampYears_4_o : List IOper := [
  ⟨(some 2), none, .asg (.c (.bool true))⟩]
def r_ingotlaw12_StampYears_4 : ICode := .region r_ingotlaw12_StampYears_4_o [] [2]
@[go_sem] theorem r_ingotlaw12_StampYears_4_u {X : Kx} {K : List Kf} {s : St} : go X (.c r_ingotlaw12_StampYears_4 :: K) s = goR X r_ingotlaw12_StampYears_4_o [2] K s := go_region _ _
@[go_sem] def r_ingotlaw12_StampYears_5_o : List IOper := [
  ⟨(some 21), none, .mv (.t 0)⟩,
  ⟨(some 22), none, .call false n_stamp_Days [(.t 21), (.c (.int .i64 1)), (.c (.int .i64 1))]⟩,
  ⟨(some 20), none, .mv (.t 22)⟩,
  ⟨(some 23), none, .ext (.t 20) 0⟩,
  ⟨(some 24), none, .ext (.t 20) 1⟩,
  ⟨(some 3), none, .asg (.t 23)⟩,
  ⟨(some 4), none, .asg (.t 24)⟩]
def r_ingotlaw12_StampYears_5 : ICode := .region r_ingotlaw12_StampYears_5_o [] [0, 3, 4]
@[go_sem] theorem r_ingotlaw12_StampYears_5_u {X : Kx} {K : List Kf} {s : St} : go X (.c r_ingotlaw12_StampYears_5 :: K) s = goR X r_ingotlaw12_StampYears_5_o [0, 3, 4] K s := go_region _ _
@[go_sem] def r_ingotlaw12_StampYears_6_o : List IOper := [
  ⟨(some 26), none, .mv (.t 0)⟩,
  ⟨(some 27), none, .bin .add (.t 26) (.c (.int .i64 1))⟩,
  ⟨(some 28), none, .call false n_stamp_Days [(.t 27), (.c (.int .i64 1)), (.c (.int .i64 1))]⟩,
  ⟨(some 25), none, .mv (.t 28)⟩,
  ⟨(some 29), none, .ext (.t 25) 0⟩,
  ⟨(some 30), none, .ext (.t 25) 1⟩,
  ⟨(some 5), none, .asg (.t 29)⟩,
  ⟨(some 6), none, .asg (.t 30)⟩]
def r_ingotlaw12_StampYears_6 : ICode := .region r_ingotlaw12_StampYears_6_o [] [0, 3, 4, 5, 6]
@[go_sem] theorem r_ingotlaw12_StampYears_6_u {X : Kx} {K : List Kf} {s : St} : go X (.c r_ingotlaw12_StampYears_6 :: K) s = goR X r_ingotlaw12_StampYears_6_o [0, 3, 4, 5, 6] K s := go_region _ _
@[go_sem] def r_ingotlaw12_StampYears_7_o : List IOper := [
  ⟨(some 32), none, .mv (.t 0)⟩,
  ⟨(some 33), none, .call false n_stamp_Days [(.t 32), (.c (.int .i64 2)), (.c (.int .i64 29))]⟩,
  ⟨(some 31), none, .mv (.t 33)⟩,
  ⟨(some 34), none, .ext (.t 31) 0⟩,
  ⟨(some 35), none, .ext (.t 31) 1⟩,
  ⟨(some 7), none, .asg (.t 34)⟩,
  ⟨(some 8), none, .asg (.t 35)⟩]
def r_ingotlaw12_StampYears_7 : ICode := .region r_ingotlaw12_StampYears_7_o [] [0, 3, 4, 5, 6, 8]
@[go_sem] theorem r_ingotlaw12_StampYears_7_u {X : Kx} {K : List Kf} {s : St} : go X (.c r_ingotlaw12_StampYears_7 :: K) s = goR X r_ingotlaw12_StampYears_7_o [0, 3, 4, 5, 6, 8] K s := go_region _ _
@[go_sem] def r_ingotlaw12_StampYears_8_o : List IOper := [
  ⟨(some 9), none, .asg (.c (.int .i64 365))⟩]
def r_ingotlaw12_StampYears_8 : ICode := .region r_ingotlaw12_StampYears_8_o [] [0, 3, 4, 5, 6, 8, 9]
@[go_sem] theorem r_ingotlaw12_StampYears_8_u {X : Kx} {K : List Kf} {s : St} : go X (.c r_ingotlaw12_StampYears_8 :: K) s = goR X r_ingotlaw12_StampYears_8_o [0, 3, 4, 5, 6, 8, 9] K s := go_region _ _
@[go_sem] def r_ingotlaw12_StampYears_9_o : List IOper := [
  ⟨(some 36), none, .mv (.t 8)⟩]
def r_ingotlaw12_StampYears_9 : ICode := .region r_ingotlaw12_StampYears_9_o [] [0, 3, 4, 5, 6, 8, 9, 36]
@[go_sem] theorem r_ingotlaw12_StampYears_9_u {X : Kx} {K : List Kf} {s : St} : go X (.c r_ingotlaw12_StampYears_9 :: K) s = goR X r_ingotlaw12_StampYears_9_o [0, 3, 4, 5, 6, 8, 9, 36] K s := go_region _ _
@[go_sem] def r_ingotlaw12_StampYears_10_o : List IOper := [
  ⟨(some 9), none, .asg (.c (.int .i64 366))⟩]
def r_ingotlaw12_StampYears_10 : ICode := .region r_ingotlaw12_StampYears_10_o [] [0, 3, 4, 5, 6, 8, 9]
@[go_sem] theorem r_ingotlaw12_StampYears_10_u {X : Kx} {K : List Kf} {s : St} : go X (.c r_ingotlaw12_StampYears_10 :: K) s = goR X r_ingotlaw12_StampYears_10_o [0, 3, 4, 5, 6, 8, 9] K s := go_region _ _
@[go_sem] def r_ingotlaw12_StampYears_11_o : List IOper := [
  ⟨(some 37), none, .mv (.t 4)⟩,
  ⟨(some 38), none, .un .not (.t 37)⟩,
  ⟨(some 39), none, .mv (.t 38)⟩,
  ⟨(some 40), some (39, false), .mv (.t 6)⟩,
  ⟨(some 41), some (39, false), .un .not (.t 40)⟩,
  ⟨(some 42), none, .pick (.t 39) (.c (.bool true)) (.t 41)⟩,
  ⟨(some 43), none, .mv (.t 42)⟩,
  ⟨(some 44), some (43, false), .mv (.t 5)⟩,
  ⟨(some 45), some (43, false), .mv (.t 3)⟩,
  ⟨(some 46), some (43, false), .bin .sub (.t 44) (.t 45)⟩,
  ⟨(some 47), some (43, false), .mv (.t 9)⟩,
  ⟨(some 48), some (43, false), .bin .neq (.t 46) (.t 47)⟩,
  ⟨(some 49), none, .pick (.t 43) (.c (.bool true)) (.t 48)⟩,
  ⟨(some 50), none, .mv (.t 49)⟩,
  ⟨(some 51), some (50, false), .mv (.t 8)⟩,
  ⟨(some 52), some (50, false), .mv (.t 0)⟩,
  ⟨(some 53), some (50, false), .bin .rem (.t 52) (.c (.int .i64 4))⟩,
  ⟨(some 54), some (50, false), .bin .eql (.t 53) (.c (.int .i64 0))⟩,
  ⟨(some 55), some (50, false), .mv (.t 54)⟩,
  ⟨(some 56), some (55, true), .mv (.t 0)⟩,
  ⟨(some 57), some (55, true), .bin .rem (.t 56) (.c (.int .i64 100))⟩,
  ⟨(some 58), some (55, true), .bin .neq (.t 57) (.c (.int .i64 0))⟩,
  ⟨(some 59), some (55, true), .mv (.t 58)⟩,
  ⟨(some 60), some (59, false), .mv (.t 0)⟩,
  ⟨(some 61), some (59, false), .bin .rem (.t 60) (.c (.int .i64 400))⟩,
  ⟨(some 62), some (59, false), .bin .eql (.t 61) (.c (.int .i64 0))⟩,
  ⟨(some 63), some (55, true), .pick (.t 59) (.c (.bool true)) (.t 62)⟩,
  ⟨(some 64), some (50, false), .pick (.t 55) (.t 63) (.c (.bool false))⟩,
  ⟨(some 65), some (50, false), .eqn true .bool (.t 51) (.t 64)⟩,
  ⟨(some 66), none, .pick (.t 50) (.c (.bool true)) (.t 65)⟩]
def r_ingotlaw12_StampYears_11 : ICode := .region r_ingotlaw12_StampYears_11_o [] [0, 3, 66]
@[go_sem] theorem r_ingotlaw12_StampYears_11_u {X : Kx} {K : List Kf} {s : St} : go X (.c r_ingotlaw12_StampYears_11 :: K) s = goR X r_ingotlaw12_StampYears_11_o [0, 3, 66] K s := go_region _ _
@[go_sem] def r_ingotlaw12_StampYears_12_o : List IOper := [
  ⟨(some 2), none, .asg (.c (.bool false))⟩]
def r_ingotlaw12_StampYears_12 : ICode := .region r_ingotlaw12_StampYears_12_o [] [2]
@[go_sem] theorem r_ingotlaw12_StampYears_12_u {X : Kx} {K : List Kf} {s : St} : go X (.c r_ingotlaw12_StampYears_12 :: K) s = goR X r_ingotlaw12_StampYears_12_o [2] K s := go_region _ _
@[go_sem] def r_ingotlaw12_StampYears_13_o : List IOper := [
  ⟨(some 67), none, .mv (.t 0)⟩,
  ⟨(some 68), none, .bin .gtr (.t 67) (.c (.int .i64 9599))⟩]
def r_ingotlaw12_StampYears_13 : ICode := .region r_ingotlaw12_StampYears_13_o [] [0, 3, 68]
@[go_sem] theorem r_ingotlaw12_StampYears_13_u {X : Kx} {K : List Kf} {s : St} : go X (.c r_ingotlaw12_StampYears_13 :: K) s = goR X r_ingotlaw12_StampYears_13_o [0, 3, 68] K s := go_region _ _
@[go_sem] def r_ingotlaw12_StampYears_14_o : List IOper := [
  ⟨(some 2), none, .asg (.c (.bool true))⟩]
def r_ingotlaw12_StampYears_14 : ICode := .region r_ingotlaw12_StampYears_14_o [] [2]
@[go_sem] theorem r_ingotlaw12_StampYears_14_u {X : Kx} {K : List Kf} {s : St} : go X (.c r_ingotlaw12_StampYears_14 :: K) s = goR X r_ingotlaw12_StampYears_14_o [2] K s := go_region _ _
@[go_sem] def r_ingotlaw12_StampYears_15_o : List IOper := [
  ⟨(some 70), none, .mv (.t 0)⟩,
  ⟨(some 71), none, .bin .add (.t 70) (.c (.int .i64 400))⟩,
  ⟨(some 72), none, .call false n_stamp_Days [(.t 71), (.c (.int .i64 1)), (.c (.int .i64 1))]⟩,
  ⟨(some 69), none, .mv (.t 72)⟩,
  ⟨(some 73), none, .ext (.t 69) 0⟩,
  ⟨(some 74), none, .ext (.t 69) 1⟩,
  ⟨(some 10), none, .asg (.t 73)⟩,
  ⟨(some 11), none, .asg (.t 74)⟩]
def r_ingotlaw12_StampYears_15 : ICode := .region r_ingotlaw12_StampYears_15_o [] [3, 10, 11]
@[go_sem] theorem r_ingotlaw12_StampYears_15_u {X : Kx} {K : List Kf} {s : St} : go X (.c r_ingotlaw12_StampYears_15 :: K) s = goR X r_ingotlaw12_StampYears_15_o [3, 10, 11] K s := go_region _ _
@[go_sem] def r_ingotlaw12_StampYears_16_o : List IOper := [
  ⟨(some 75), none, .mv (.t 11)⟩,
  ⟨(some 76), none, .mv (.t 75)⟩,
  ⟨(some 77), some (76, true), .mv (.t 10)⟩,
  ⟨(some 78), some (76, true), .mv (.t 3)⟩,
  ⟨(some 79), some (76, true), .bin .sub (.t 77) (.t 78)⟩,
  ⟨(some 80), some (76, true), .bin .eql (.t 79) (.c (.int .i64 146097))⟩,
  ⟨(some 81), none, .pick (.t 76) (.t 80) (.c (.bool false))⟩,
  ⟨(some 2), none, .asg (.t 81)⟩]
def r_ingotlaw12_StampYears_16 : ICode := .region r_ingotlaw12_StampYears_16_o [] [2]
@[go_sem] theorem r_ingotlaw12_StampYears_16_u {X : Kx} {K : List Kf} {s : St} : go X (.c r_ingotlaw12_StampYears_16 :: K) s = goR X r_ingotlaw12_StampYears_16_o [2] K s := go_region _ _
def c_ingotlaw12_StampYears : ICode := (.seq r_ingotlaw12_StampYears_0 (.seq (.seq r_ingotlaw12_StampYears_1 (.cond (.t 13) (.seq r_ingotlaw12_StampYears_2 .ret) .skip)) (.seq (.seq r_ingotlaw12_StampYears_3 (.cond (.t 19) (.seq r_ingotlaw12_StampYears_4 .ret) .skip)) (.seq r_ingotlaw12_StampYears_5 (.seq r_ingotlaw12_StampYears_6 (.seq r_ingotlaw12_StampYears_7 (.seq r_ingotlaw12_StampYears_8 (.seq (.seq r_ingotlaw12_StampYears_9 (.cond (.t 36) r_ingotlaw12_StampYears_10 .skip)) (.seq (.seq r_ingotlaw12_StampYears_11 (.cond (.t 66) (.seq r_ingotlaw12_StampYears_12 .ret) .skip)) (.seq (.seq r_ingotlaw12_StampYears_13 (.cond (.t 68) (.seq r_ingotlaw12_StampYears_14 .ret) .skip)) (.seq r_ingotlaw12_StampYears_15 (.seq r_ingotlaw12_StampYears_16 .ret))))))))))))
def i_ingotlaw12_StampYears : IFunc := ⟨1, [.t 2], c_ingotlaw12_StampYears⟩
def a_ingotlaw12_StampYears : Advice := ⟨[], [(16, [2]), (15, [3, 10, 11]), (14, [2]), (13, [0, 3, 68]), (12, [2]), (11, [0, 3, 66]), (10, [0, 3, 4, 5, 6, 8, 9]), (9, [0, 3, 4, 5, 6, 8, 9, 36]), (8, [0, 3, 4, 5, 6, 8, 9]), (7, [0, 3, 4, 5, 6, 8]), (6, [0, 3, 4, 5, 6]), (5, [0, 3, 4]), (4, [2]), (3, [0, 19]), (2, [2]), (1, [0, 13]), (0, [0])], [], []⟩
/-! ingot/ingotref12.pad -/
@[go_sem] def r_ingotref12_pad_0_o : List IOper := [
  ⟨(some 4), none, .asg (.c (.str []))⟩]
def r_ingotref12_pad_0 : ICode := .region r_ingotref12_pad_0_o [] [0, 1]
@[go_sem] theorem r_ingotref12_pad_0_u {X : Kx} {K : List Kf} {s : St} : go X (.c r_ingotref12_pad_0 :: K) s = goR X r_ingotref12_pad_0_o [0, 1] K s := go_region _ _
@[go_sem] def r_ingotref12_pad_1_o : List IOper := [
  ⟨(some 6), none, .mv (.t 0)⟩,
  ⟨(some 7), none, .bin .rem (.t 6) (.c (.int .i64 10))⟩,
  ⟨(some 8), none, .bin .add (.c (.int .i64 48)) (.t 7)⟩,
  ⟨(some 9), none, .cvInt .u8 (.t 8)⟩,
  ⟨(some 10), none, .lit true 1 1 (.int .u8 0) [(0, (.t 9))]⟩,
  ⟨(some 11), none, .b2s (.t 10)⟩,
  ⟨(some 5), none, .asg (.t 11)⟩]
def r_ingotref12_pad_1 : ICode := .region r_ingotref12_pad_1_o [] [0, 1, 5]
@[go_sem] theorem r_ingotref12_pad_1_u {X : Kx} {K : List Kf} {s : St} : go X (.c r_ingotref12_pad_1 :: K) s = goR X r_ingotref12_pad_1_o [0, 1, 5] K s := go_region _ _
@[go_sem] def r_ingotref12_pad_2_o : List IOper := [
  ⟨(some 12), none, .mv (.t 0)⟩,
  ⟨(some 13), none, .bin .geq (.t 12) (.c (.int .i64 10))⟩]
def r_ingotref12_pad_2 : ICode := .region r_ingotref12_pad_2_o [] [0, 1, 5, 13]
@[go_sem] theorem r_ingotref12_pad_2_u {X : Kx} {K : List Kf} {s : St} : go X (.c r_ingotref12_pad_2 :: K) s = goR X r_ingotref12_pad_2_o [0, 1, 5, 13] K s := go_region _ _
@[go_sem] def r_ingotref12_pad_3_o : List IOper := [
  ⟨(some 14), none, .mv (.t 0)⟩,
  ⟨(some 15), none, .bin .quo (.t 14) (.c (.int .i64 10))⟩,
  ⟨(some 0), none, .asg (.t 15)⟩]
def r_ingotref12_pad_3 : ICode := .region r_ingotref12_pad_3_o [] [0, 1, 5]
@[go_sem] theorem r_ingotref12_pad_3_u {X : Kx} {K : List Kf} {s : St} : go X (.c r_ingotref12_pad_3 :: K) s = goR X r_ingotref12_pad_3_o [0, 1, 5] K s := go_region _ _
@[go_sem] def r_ingotref12_pad_4_o : List IOper := [
  ⟨(some 16), none, .mv (.t 0)⟩,
  ⟨(some 17), none, .bin .rem (.t 16) (.c (.int .i64 10))⟩,
  ⟨(some 18), none, .bin .add (.c (.int .i64 48)) (.t 17)⟩,
  ⟨(some 19), none, .cvInt .u8 (.t 18)⟩,
  ⟨(some 20), none, .lit true 1 1 (.int .u8 0) [(0, (.t 19))]⟩,
  ⟨(some 21), none, .b2s (.t 20)⟩,
  ⟨(some 22), none, .mv (.t 5)⟩,
  ⟨(some 23), none, .bin .add (.t 21) (.t 22)⟩,
  ⟨(some 5), none, .asg (.t 23)⟩]
def r_ingotref12_pad_4 : ICode := .region r_ingotref12_pad_4_o [] [0, 1, 5]
@[go_sem] theorem r_ingotref12_pad_4_u {X : Kx} {K : List Kf} {s : St} : go X (.c r_ingotref12_pad_4 :: K) s = goR X r_ingotref12_pad_4_o [0, 1, 5] K s := go_region _ _
def b_ingotref12_pad_5 : ICode := (.seq (.seq r_ingotref12_pad_2 (.cond (.t 13) .skip (.exit 0))) (.block 1 (.seq r_ingotref12_pad_3 r_ingotref12_pad_4)))
@[go_sem] theorem b_ingotref12_pad_5_u {X : Kx} {K : List Kf} {s : St} : go X (.c b_ingotref12_pad_5 :: K) s = go X (.c (.seq (.seq r_ingotref12_pad_2 (.cond (.t 13) .skip (.exit 0))) (.block 1 (.seq r_ingotref12_pad_3 r_ingotref12_pad_4))) :: K) s := rfl
@[go_sem] def r_ingotref12_pad_6_o : List IOper := [
  ⟨(some 24), none, .mv (.t 5)⟩,
  ⟨(some 25), none, .len true (.t 24)⟩,
  ⟨(some 26), none, .mv (.t 1)⟩,
  ⟨(some 27), none, .bin .lss (.t 25) (.t 26)⟩]
def r_ingotref12_pad_6 : ICode := .region r_ingotref12_pad_6_o [] [1, 5, 27]
@[go_sem] theorem r_ingotref12_pad_6_u {X : Kx} {K : List Kf} {s : St} : go X (.c r_ingotref12_pad_6 :: K) s = goR X r_ingotref12_pad_6_o [1, 5, 27] K s := go_region _ _
@[go_sem] def r_ingotref12_pad_7_o : List IOper := [
  ⟨(some 28), none, .mv (.t 5)⟩,
  ⟨(some 29), none, .bin .add (.c (.str [48])) (.t 28)⟩,
  ⟨(some 5), none, .asg (.t 29)⟩]
def r_ingotref12_pad_7 : ICode := .region r_ingotref12_pad_7_o [] [1, 5]
@[go_sem] theorem r_ingotref12_pad_7_u {X : Kx} {K : List Kf} {s : St} : go X (.c r_ingotref12_pad_7 :: K) s = goR X r_ingotref12_pad_7_o [1, 5] K s := go_region _ _
def b_ingotref12_pad_8 : ICode := (.seq (.seq r_ingotref12_pad_6 (.cond (.t 27) .skip (.exit 2))) (.block 3 r_ingotref12_pad_7))
@[go_sem] theorem b_ingotref12_pad_8_u {X : Kx} {K : List Kf} {s : St} : go X (.c b_ingotref12_pad_8 :: K) s = go X (.c (.seq (.seq r_ingotref12_pad_6 (.cond (.t 27) .skip (.exit 2))) (.block 3 r_ingotref12_pad_7)) :: K) s := rfl
@[go_sem] def r_ingotref12_pad_9_o : List IOper := [
  ⟨(some 30), none, .mv (.t 5)⟩,
  ⟨(some 4), none, .asg (.t 30)⟩]
def r_ingotref12_pad_9 : ICode := .region r_ingotref12_pad_9_o [] [4]
@[go_sem] theorem r_ingotref12_pad_9_u {X : Kx} {K : List Kf} {s : St} : go X (.c r_ingotref12_pad_9 :: K) s = goR X r_ingotref12_pad_9_o [4] K s := go_region _ _
def c_ingotref12_pad : ICode := (.seq r_ingotref12_pad_0 (.seq r_ingotref12_pad_1 (.seq (.block 0 (.loop b_ingotref12_pad_5)) (.seq (.block 2 (.loop b_ingotref12_pad_8)) (.seq r_ingotref12_pad_9 .ret)))))
def i_ingotref12_pad : IFunc := ⟨2, [.t 4], c_ingotref12_pad⟩
def a_ingotref12_pad : Advice := ⟨[10, 20], [(7, [4]), (6, [1, 5]), (5, [1, 5, 27]), (4, [0, 1, 5]), (3, [0, 1, 5]), (2, [0, 1, 5, 13]), (1, [0, 1, 5]), (0, [0, 1])], [], []⟩
/-! ingot/ingotref12.Day -/
@[go_sem] def r_ingotref12_Day_0_o : List IOper := [
  ⟨(some 2), none, .asg (.c (.str []))⟩]
def r_ingotref12_Day_0 : ICode := .region r_ingotref12_Day_0_o [] [0]
@[go_sem] theorem r_ingotref12_Day_0_u {X : Kx} {K : List Kf} {s : St} : go X (.c r_ingotref12_Day_0 :: K) s = goR X r_ingotref12_Day_0_o [0] K s := go_region _ _
@[go_sem] def r_ingotref12_Day_1_o : List IOper := [
  ⟨(some 8), none, .mv (.t 0)⟩,
  ⟨(some 9), none, .call false n_ingotref12_Date [(.t 8)]⟩,
  ⟨(some 7), none, .mv (.t 9)⟩,
  ⟨(some 10), none, .ext (.t 7) 0⟩,
  ⟨(some 11), none, .ext (.t 7) 1⟩,
  ⟨(some 12), none, .ext (.t 7) 2⟩,
  ⟨(some 3), none, .asg (.t 10)⟩,
  ⟨(some 4), none, .asg (.t 11)⟩,
  ⟨(some 5), none, .asg (.t 12)⟩]
def r_ingotref12_Day_1 : ICode := .region r_ingotref12_Day_1_o [] [3, 4, 5]
@[go_sem] theorem r_ingotref12_Day_1_u {X : Kx} {K : List Kf} {s : St} : go X (.c r_ingotref12_Day_1 :: K) s = goR X r_ingotref12_Day_1_o [3, 4, 5] K s := go_region _ _
@[go_sem] def r_ingotref12_Day_2_o : List IOper := [
  ⟨(some 6), none, .asg (.c (.str []))⟩]
def r_ingotref12_Day_2 : ICode := .region r_ingotref12_Day_2_o [] [3, 4, 5, 6]
@[go_sem] theorem r_ingotref12_Day_2_u {X : Kx} {K : List Kf} {s : St} : go X (.c r_ingotref12_Day_2 :: K) s = goR X r_ingotref12_Day_2_o [3, 4, 5, 6] K s := go_region _ _
@[go_sem] def r_ingotref12_Day_3_o : List IOper := [
  ⟨(some 13), none, .mv (.t 3)⟩,
  ⟨(some 14), none, .bin .lss (.t 13) (.c (.int .i64 0))⟩]
def r_ingotref12_Day_3 : ICode := .region r_ingotref12_Day_3_o [] [3, 4, 5, 6, 14]
@[go_sem] theorem r_ingotref12_Day_3_u {X : Kx} {K : List Kf} {s : St} : go X (.c r_ingotref12_Day_3 :: K) s = goR X r_ingotref12_Day_3_o [3, 4, 5, 6, 14] K s := go_region _ _
@[go_sem] def r_ingotref12_Day_4_o : List IOper := [
  ⟨(some 6), none, .asg (.c (.str [45]))⟩]
def r_ingotref12_Day_4 : ICode := .region r_ingotref12_Day_4_o [] [3, 4, 5, 6]
@[go_sem] theorem r_ingotref12_Day_4_u {X : Kx} {K : List Kf} {s : St} : go X (.c r_ingotref12_Day_4 :: K) s = goR X r_ingotref12_Day_4_o [3, 4, 5, 6] K s := go_region _ _
@[go_sem] def r_ingotref12_Day_5_o : List IOper := [
  ⟨(some 15), none, .mv (.t 3)⟩,
  ⟨(some 16), none, .bin .sub (.c (.int .i64 0)) (.t 15)⟩,
  ⟨(some 3), none, .asg (.t 16)⟩]
def r_ingotref12_Day_5 : ICode := .region r_ingotref12_Day_5_o [] [3, 4, 5, 6]
@[go_sem] theorem r_ingotref12_Day_5_u {X : Kx} {K : List Kf} {s : St} : go X (.c r_ingotref12_Day_5 :: K) s = goR X r_ingotref12_Day_5_o [3, 4, 5, 6] K s := go_region _ _
@[go_sem] def r_ingotref12_Day_6_o : List IOper := [
  ⟨(some 17), none, .mv (.t 6)⟩,
  ⟨(some 18), none, .mv (.t 3)⟩,
  ⟨(some 19), none, .call false n_ingotref12_pad [(.t 18), (.c (.int .i64 4))]⟩,
  ⟨(some 20), none, .bin .add (.t 17) (.t 19)⟩,
  ⟨(some 21), none, .bin .add (.t 20) (.c (.str [45]))⟩,
  ⟨(some 22), none, .mv (.t 4)⟩,
  ⟨(some 23), none, .call false n_ingotref12_pad [(.t 22), (.c (.int .i64 2))]⟩,
  ⟨(some 24), none, .bin .add (.t 21) (.t 23)⟩,
  ⟨(some 25), none, .bin .add (.t 24) (.c (.str [45]))⟩,
  ⟨(some 26), none, .mv (.t 5)⟩,
  ⟨(some 27), none, .call false n_ingotref12_pad [(.t 26), (.c (.int .i64 2))]⟩,
  ⟨(some 28), none, .bin .add (.t 25) (.t 27)⟩,
  ⟨(some 2), none, .asg (.t 28)⟩]
def r_ingotref12_Day_6 : ICode := .region r_ingotref12_Day_6_o [] [2]
@[go_sem] theorem r_ingotref12_Day_6_u {X : Kx} {K : List Kf} {s : St} : go X (.c r_ingotref12_Day_6 :: K) s = goR X r_ingotref12_Day_6_o [2] K s := go_region _ _
def c_ingotref12_Day : ICode := (.seq r_ingotref12_Day_0 (.seq r_ingotref12_Day_1 (.seq r_ingotref12_Day_2 (.seq (.seq r_ingotref12_Day_3 (.cond (.t 14) (.seq r_ingotref12_Day_4 r_ingotref12_Day_5) .skip)) (.seq r_ingotref12_Day_6 .ret)))))
def i_ingotref12_Day : IFunc := ⟨1, [.t 2], c_ingotref12_Day⟩
def a_ingotref12_Day : Advice := ⟨[], [(6, [2]), (5, [3, 4, 5, 6]), (4, [3, 4, 5, 6]), (3, [3, 4, 5, 6, 14]), (2, [3, 4, 5, 6]), (1, [3, 4, 5]), (0, [0])], [], []⟩
/-! ingot/ingotref12.Text -/
@[go_sem] def r_ingotref12_Text_0_o : List IOper := [
  ⟨(some 4), none, .asg (.c (.str []))⟩]
def r_ingotref12_Text_0 : ICode := .region r_ingotref12_Text_0_o [] [0, 1]
@[go_sem] theorem r_ingotref12_Text_0_u {X : Kx} {K : List Kf} {s : St} : go X (.c r_ingotref12_Text_0 :: K) s = goR X r_ingotref12_Text_0_o [0, 1] K s := go_region _ _
@[go_sem] def r_ingotref12_Text_1_o : List IOper := [
  ⟨(some 10), none, .mv (.t 0)⟩,
  ⟨(some 11), none, .call false n_ingotref12_Split [(.t 10)]⟩,
  ⟨(some 9), none, .mv (.t 11)⟩,
  ⟨(some 12), none, .ext (.t 9) 0⟩,
  ⟨(some 13), none, .ext (.t 9) 1⟩,
  ⟨(some 5), none, .asg (.t 12)⟩,
  ⟨(some 6), none, .asg (.t 13)⟩]
def r_ingotref12_Text_1 : ICode := .region r_ingotref12_Text_1_o [] [1, 5, 6]
@[go_sem] theorem r_ingotref12_Text_1_u {X : Kx} {K : List Kf} {s : St} : go X (.c r_ingotref12_Text_1 :: K) s = goR X r_ingotref12_Text_1_o [1, 5, 6] K s := go_region _ _
@[go_sem] def r_ingotref12_Text_2_o : List IOper := [
  ⟨(some 14), none, .mv (.t 5)⟩,
  ⟨(some 15), none, .call false n_ingotref12_Day [(.t 14)]⟩,
  ⟨(some 16), none, .bin .add (.t 15) (.c (.str [32]))⟩,
  ⟨(some 17), none, .mv (.t 6)⟩,
  ⟨(some 18), none, .bin .quo (.t 17) (.c (.int .i64 3600))⟩,
  ⟨(some 19), none, .call false n_ingotref12_pad [(.t 18), (.c (.int .i64 2))]⟩,
  ⟨(some 20), none, .bin .add (.t 16) (.t 19)⟩,
  ⟨(some 21), none, .bin .add (.t 20) (.c (.str [58]))⟩,
  ⟨(some 22), none, .mv (.t 6)⟩,
  ⟨(some 23), none, .bin .quo (.t 22) (.c (.int .i64 60))⟩,
  ⟨(some 24), none, .bin .rem (.t 23) (.c (.int .i64 60))⟩,
  ⟨(some 25), none, .call false n_ingotref12_pad [(.t 24), (.c (.int .i64 2))]⟩,
  ⟨(some 26), none, .bin .add (.t 21) (.t 25)⟩,
  ⟨(some 27), none, .bin .add (.t 26) (.c (.str [58]))⟩,
  ⟨(some 28), none, .mv (.t 6)⟩,
  ⟨(some 29), none, .bin .rem (.t 28) (.c (.int .i64 60))⟩,
  ⟨(some 30), none, .call false n_ingotref12_pad [(.t 29), (.c (.int .i64 2))]⟩,
  ⟨(some 31), none, .bin .add (.t 27) (.t 30)⟩,
  ⟨(some 7), none, .asg (.t 31)⟩]
def r_ingotref12_Text_2 : ICode := .region r_ingotref12_Text_2_o [] [1, 7]
@[go_sem] theorem r_ingotref12_Text_2_u {X : Kx} {K : List Kf} {s : St} : go X (.c r_ingotref12_Text_2 :: K) s = goR X r_ingotref12_Text_2_o [1, 7] K s := go_region _ _
@[go_sem] def r_ingotref12_Text_3_o : List IOper := [
  ⟨(some 32), none, .mv (.t 1)⟩,
  ⟨(some 33), none, .bin .eql (.t 32) (.c (.int .i64 0))⟩]
def r_ingotref12_Text_3 : ICode := .region r_ingotref12_Text_3_o [] [1, 7, 33]
@[go_sem] theorem r_ingotref12_Text_3_u {X : Kx} {K : List Kf} {s : St} : go X (.c r_ingotref12_Text_3 :: K) s = goR X r_ingotref12_Text_3_o [1, 7, 33] K s := go_region _ _
@[go_sem] def r_ingotref12_Text_4_o : List IOper := [
  ⟨(some 34), none, .mv (.t 7)⟩,
  ⟨(some 4), none, .asg (.t 34)⟩]
def r_ingotref12_Text_4 : ICode := .region r_ingotref12_Text_4_o [] [4]
@[go_sem] theorem r_ingotref12_Text_4_u {X : Kx} {K : List Kf} {s : St} : go X (.c r_ingotref12_Text_4 :: K) s = goR X r_ingotref12_Text_4_o [4] K s := go_region _ _
@[go_sem] def r_ingotref12_Text_5_o : List IOper := [
  ⟨(some 35), none, .mv (.t 1)⟩,
  ⟨(some 36), none, .call false n_ingotref12_pad [(.t 35), (.c (.int .i64 9))]⟩,
  ⟨(some 8), none, .asg (.t 36)⟩]
def r_ingotref12_Text_5 : ICode := .region r_ingotref12_Text_5_o [] [7, 8]
@[go_sem] theorem r_ingotref12_Text_5_u {X : Kx} {K : List Kf} {s : St} : go X (.c r_ingotref12_Text_5 :: K) s = goR X r_ingotref12_Text_5_o [7, 8] K s := go_region _ _
@[go_sem] def r_ingotref12_Text_6_o : List IOper := [
  ⟨(some 37), none, .mv (.t 8)⟩,
  ⟨(some 38), none, .mv (.t 8)⟩,
  ⟨(some 39), none, .len true (.t 38)⟩,
  ⟨(some 40), none, .bin .sub (.t 39) (.c (.int .i64 1))⟩,
  ⟨(some 41), none, .idxS (.t 37) (.t 40)⟩,
  ⟨(some 42), none, .bin .eql (.t 41) (.c (.int .u8 48))⟩]
def r_ingotref12_Text_6 : ICode := .region r_ingotref12_Text_6_o [] [7, 8, 42]
@[go_sem] theorem r_ingotref12_Text_6_u {X : Kx} {K : List Kf} {s : St} : go X (.c r_ingotref12_Text_6 :: K) s = goR X r_ingotref12_Text_6_o [7, 8, 42] K s := go_region _ _
@[go_sem] def r_ingotref12_Text_7_o : List IOper := [
  ⟨(some 43), none, .mv (.t 8)⟩,
  ⟨(some 44), none, .mv (.t 8)⟩,
  ⟨(some 45), none, .len true (.t 44)⟩,
  ⟨(some 46), none, .bin .sub (.t 45) (.c (.int .i64 1))⟩,
  ⟨(some 47), none, .sliceS (.t 43) none (some (.t 46))⟩,
  ⟨(some 8), none, .asg (.t 47)⟩]
def r_ingotref12_Text_7 : ICode := .region r_ingotref12_Text_7_o [] [7, 8]
@[go_sem] theorem r_ingotref12_Text_7_u {X : Kx} {K : List Kf} {s : St} : go X (.c r_ingotref12_Text_7 :: K) s = goR X r_ingotref12_Text_7_o [7, 8] K s := go_region _ _
def b_ingotref12_Text_8 : ICode := (.seq (.seq r_ingotref12_Text_6 (.cond (.t 42) .skip (.exit 0))) (.block 1 r_ingotref12_Text_7))
@[go_sem] theorem b_ingotref12_Text_8_u {X : Kx} {K : List Kf} {s : St} : go X (.c b_ingotref12_Text_8 :: K) s = go X (.c (.seq (.seq r_ingotref12_Text_6 (.cond (.t 42) .skip (.exit 0))) (.block 1 r_ingotref12_Text_7)) :: K) s := rfl
@[go_sem] def r_ingotref12_Text_9_o : List IOper := [
  ⟨(some 48), none, .mv (.t 7)⟩,
  ⟨(some 49), none, .bin .add (.t 48) (.c (.str [46]))⟩,
  ⟨(some 50), none, .mv (.t 8)⟩,
  ⟨(some 51), none, .bin .add (.t 49) (.t 50)⟩,
  ⟨(some 4), none, .asg (.t 51)⟩]
def r_ingotref12_Text_9 : ICode := .region r_ingotref12_Text_9_o [] [4]
@[go_sem] theorem r_ingotref12_Text_9_u {X : Kx} {K : List Kf} {s : St} : go X (.c r_ingotref12_Text_9 :: K) s = goR X r_ingotref12_Text_9_o [4] K s := go_region _ _
def c_ingotref12_Text : ICode := (.seq r_ingotref12_Text_0 (.seq r_ingotref12_Text_1 (.seq r_ingotref12_Text_2 (.seq (.seq r_ingotref12_Text_3 (.cond (.t 33) (.seq r_ingotref12_Text_4 .ret) .skip)) (.seq r_ingotref12_Text_5 (.seq (.block 0 (.loop b_ingotref12_Text_8)) (.seq r_ingotref12_Text_9 .ret)))))))
def i_ingotref12_Text : IFunc := ⟨2, [.t 4], c_ingotref12_Text⟩
def a_ingotref12_Text : Advice := ⟨[], [(8, [4]), (7, [7, 8]), (6, [7, 8, 42]), (5, [7, 8]), (4, [4]), (3, [1, 7, 33]), (2, [1, 7]), (1, [1, 5, 6]), (0, [0, 1])], [], []⟩
/-! ingot/ingotref12.Split -/
@[go_sem] def r_ingotref12_Split_0_o : List IOper := [
  ⟨(some 2), none, .asg (.c (.int .i64 0))⟩,
  ⟨(some 3), none, .asg (.c (.int .i64 0))⟩]
def r_ingotref12_Split_0 : ICode := .region r_ingotref12_Split_0_o [] [0]
@[go_sem] theorem r_ingotref12_Split_0_u {X : Kx} {K : List Kf} {s : St} : go X (.c r_ingotref12_Split_0 :: K) s = goR X r_ingotref12_Split_0_o [0] K s := go_region _ _
@[go_sem] def r_ingotref12_Split_1_o : List IOper := [
  ⟨(some 5), none, .mv (.t 0)⟩,
  ⟨(some 6), none, .call false n_ingotref12_floor [(.t 5), (.c (.int .i64 86400))]⟩,
  ⟨(some 4), none, .asg (.t 6)⟩]
def r_ingotref12_Split_1 : ICode := .region r_ingotref12_Split_1_o [] [0, 4]
@[go_sem] theorem r_ingotref12_Split_1_u {X : Kx} {K : List Kf} {s : St} : go X (.c r_ingotref12_Split_1 :: K) s = goR X r_ingotref12_Split_1_o [0, 4] K s := go_region _ _
@[go_sem] def r_ingotref12_Split_2_o : List IOper := [
  ⟨(some 7), none, .mv (.t 4)⟩,
  ⟨(some 8), none, .mv (.t 0)⟩,
  ⟨(some 9), none, .mv (.t 4)⟩,
  ⟨(some 10), none, .bin .mul (.t 9) (.c (.int .i64 86400))⟩,
  ⟨(some 11), none, .bin .sub (.t 8) (.t 10)⟩,
  ⟨(some 2), none, .asg (.t 7)⟩,
  ⟨(some 3), none, .asg (.t 11)⟩]
def r_ingotref12_Split_2 : ICode := .region r_ingotref12_Split_2_o [] [2, 3]
@[go_sem] theorem r_ingotref12_Split_2_u {X : Kx} {K : List Kf} {s : St} : go X (.c r_ingotref12_Split_2 :: K) s = goR X r_ingotref12_Split_2_o [2, 3] K s := go_region _ _
def c_ingotref12_Split : ICode := (.seq r_ingotref12_Split_0 (.seq r_ingotref12_Split_1 (.seq r_ingotref12_Split_2 .ret)))
def i_ingotref12_Split : IFunc := ⟨1, [.t 2, .t 3], c_ingotref12_Split⟩
def a_ingotref12_Split : Advice := ⟨[], [(2, [2, 3]), (1, [0, 4]), (0, [0])], [], []⟩
/-! ingot/ingotref12.Seconds -/
@[go_sem] def r_ingotref12_Seconds_0_o : List IOper := [
  ⟨(some 12), none, .asg (.c (.int .i64 0))⟩,
  ⟨(some 13), none, .asg (.c (.bool false))⟩]
def r_ingotref12_Seconds_0 : ICode := .region r_ingotref12_Seconds_0_o [] [0, 1, 2, 3, 4, 5]
@[go_sem] theorem r_ingotref12_Seconds_0_u {X : Kx} {K : List Kf} {s : St} : go X (.c r_ingotref12_Seconds_0 :: K) s = goR X r_ingotref12_Seconds_0_o [0, 1, 2, 3, 4, 5] K s := go_region _ _
@[go_sem] def r_ingotref12_Seconds_1_o : List IOper := [
  ⟨(some 17), none, .mv (.t 0)⟩,
  ⟨(some 18), none, .mv (.t 1)⟩,
  ⟨(some 19), none, .mv (.t 2)⟩,
  ⟨(some 20), none, .call false n_ingotref12_Days [(.t 17), (.t 18), (.t 19)]⟩,
  ⟨(some 16), none, .mv (.t 20)⟩,
  ⟨(some 21), none, .ext (.t 16) 0⟩,
  ⟨(some 22), none, .ext (.t 16) 1⟩,
  ⟨(some 14), none, .asg (.t 21)⟩,
  ⟨(some 15), none, .asg (.t 22)⟩]
def r_ingotref12_Seconds_1 : ICode := .region r_ingotref12_Seconds_1_o [] [3, 4, 5, 14, 15]
@[go_sem] theorem r_ingotref12_Seconds_1_u {X : Kx} {K : List Kf} {s : St} : go X (.c r_ingotref12_Seconds_1 :: K) s = goR X r_ingotref12_Seconds_1_o [3, 4, 5, 14, 15] K s := go_region _ _
@[go_sem] def r_ingotref12_Seconds_2_o : List IOper := [
  ⟨(some 23), none, .mv (.t 15)⟩,
  ⟨(some 24), none, .un .not (.t 23)⟩,
  ⟨(some 25), none, .mv (.t 24)⟩,
  ⟨(some 26), some (25, false), .mv (.t 3)⟩,
  ⟨(some 27), some (25, false), .bin .lss (.t 26) (.c (.int .i64 0))⟩,
  ⟨(some 28), none, .pick (.t 25) (.c (.bool true)) (.t 27)⟩,
  ⟨(some 29), none, .mv (.t 28)⟩,
  ⟨(some 30), some (29, false), .mv (.t 3)⟩,
  ⟨(some 31), some (29, false), .bin .gtr (.t 30) (.c (.int .i64 23))⟩,
  ⟨(some 32), none, .pick (.t 29) (.c (.bool true)) (.t 31)⟩,
  ⟨(some 33), none, .mv (.t 32)⟩,
  ⟨(some 34), some (33, false), .mv (.t 4)⟩,
  ⟨(some 35), some (33, false), .bin .lss (.t 34) (.c (.int .i64 0))⟩,
  ⟨(some 36), none, .pick (.t 33) (.c (.bool true)) (.t 35)⟩,
  ⟨(some 37), none, .mv (.t 36)⟩,
  ⟨(some 38), some (37, false), .mv (.t 4)⟩,
  ⟨(some 39), some (37, false), .bin .gtr (.t 38) (.c (.int .i64 59))⟩,
  ⟨(some 40), none, .pick (.t 37) (.c (.bool true)) (.t 39)⟩,
  ⟨(some 41), none, .mv (.t 40)⟩,
  ⟨(some 42), some (41, false), .mv (.t 5)⟩,
  ⟨(some 43), some (41, false), .bin .lss (.t 42) (.c (.int .i64 0))⟩,
  ⟨(some 44), none, .pick (.t 41) (.c (.bool true)) (.t 43)⟩,
  ⟨(some 45), none, .mv (.t 44)⟩,
  ⟨(some 46), some (45, false), .mv (.t 5)⟩,
  ⟨(some 47), some (45, false), .bin .gtr (.t 46) (.c (.int .i64 59))⟩,
  ⟨(some 48), none, .pick (.t 45) (.c (.bool true)) (.t 47)⟩]
def r_ingotref12_Seconds_2 : ICode := .region r_ingotref12_Seconds_2_o [] [3, 4, 5, 14, 48]
@[go_sem] theorem r_ingotref12_Seconds_2_u {X : Kx} {K : List Kf} {s : St} : go X (.c r_ingotref12_Seconds_2 :: K) s = goR X r_ingotref12_Seconds_2_o [3, 4, 5, 14, 48] K s := go_region _ _
@[go_sem] def r_ingotref12_Seconds_3_o : List IOper := [
  ⟨(some 12), none, .asg (.c (.int .i64 0))⟩,
  ⟨(some 13), none, .asg (.c (.bool false))⟩]
def r_ingotref12_Seconds_3 : ICode := .region r_ingotref12_Seconds_3_o [] [12, 13]
@[go_sem] theorem r_ingotref12_Seconds_3_u {X : Kx} {K : List Kf} {s : St} : go X (.c r_ingotref12_Seconds_3 :: K) s = goR X r_ingotref12_Seconds_3_o [12, 13] K s := go_region _ _
@[go_sem] def r_ingotref12_Seconds_4_o : List IOper := [
  ⟨(some 49), none, .mv (.t 14)⟩,
  ⟨(some 50), none, .bin .mul (.t 49) (.c (.int .i64 86400))⟩,
  ⟨(some 51), none, .mv (.t 3)⟩,
  ⟨(some 52), none, .bin .mul (.c (.int .i64 3600)) (.t 51)⟩,
  ⟨(some 53), none, .mv (.t 4)⟩,
  ⟨(some 54), none, .bin .mul (.c (.int .i64 60)) (.t 53)⟩,
  ⟨(some 55), none, .bin .add (.t 52) (.t 54)⟩,
  ⟨(some 56), none, .mv (.t 5)⟩,
  ⟨(some 57), none, .bin .add (.t 55) (.t 56)⟩,
  ⟨(some 58), none, .bin .add (.t 50) (.t 57)⟩,
  ⟨(some 12), none, .asg (.t 58)⟩,
  ⟨(some 13), none, .asg (.c (.bool true))⟩]
def r_ingotref12_Seconds_4 : ICode := .region r_ingotref12_Seconds_4_o [] [12, 13]
@[go_sem] theorem r_ingotref12_Seconds_4_u {X : Kx} {K : List Kf} {s : St} : go X (.c r_ingotref12_Seconds_4 :: K) s = goR X r_ingotref12_Seconds_4_o [12, 13] K s := go_region _ _
def c_ingotref12_Seconds : ICode := (.seq r_ingotref12_Seconds_0 (.seq r_ingotref12_Seconds_1 (.seq (.seq r_ingotref12_Seconds_2 (.cond (.t 48) (.seq r_ingotref12_Seconds_3 .ret) .skip)) (.seq r_ingotref12_Seconds_4 .ret))))
def i_ingotref12_Seconds : IFunc := ⟨6, [.t 12, .t 13], c_ingotref12_Seconds⟩
def a_ingotref12_Seconds : Advice := ⟨[], [(4, [12, 13]), (3, [12, 13]), (2, [3, 4, 5, 14, 48]), (1, [3, 4, 5, 14, 15]), (0, [0, 1, 2, 3, 4, 5])], [], []⟩
/-! ingot/ingotlaw12.StampTexts -/
@[go_sem] def r_ingotlaw12_StampTexts_0_o : List IOper := [
  ⟨(some 16), none, .asg (.c (.bool false))⟩]
def r_ingotlaw12_StampTexts_0 : ICode := .region r_ingotlaw12_StampTexts_0_o [] [0, 1, 2, 3, 4, 5, 6, 7]
@[go_sem] theorem r_ingotlaw12_StampTexts_0_u {X : Kx} {K : List Kf} {s : St} : go X (.c r_ingotlaw12_StampTexts_0 :: K) s = goR X r_ingotlaw12_StampTexts_0_o [0, 1, 2, 3, 4, 5, 6, 7] K s := go_region _ _
@[go_sem] def r_ingotlaw12_StampTexts_1_o : List IOper := [
  ⟨(some 28), none, .call false n_ingotlaw12_known []⟩,
  ⟨(some 29), none, .un .not (.t 28)⟩]
def r_ingotlaw12_StampTexts_1 : ICode := .region r_ingotlaw12_StampTexts_1_o [] [0, 1, 2, 3, 4, 5, 6, 7, 29]
@[go_sem] theorem r_ingotlaw12_StampTexts_1_u {X : Kx} {K : List Kf} {s : St} : go X (.c r_ingotlaw12_StampTexts_1 :: K) s = goR X r_ingotlaw12_StampTexts_1_o [0, 1, 2, 3, 4, 5, 6, 7, 29] K s := go_region _ _
@[go_sem] def r_ingotlaw12_StampTexts_2_o : List IOper := [
  ⟨(some 16), none, .asg (.c (.bool false))⟩]
def r_ingotlaw12_StampTexts_2 : ICode := .region r_ingotlaw12_StampTexts_2_o [] [16]
@[go_sem] theorem r_ingotlaw12_StampTexts_2_u {X : Kx} {K : List Kf} {s : St} : go X (.c r_ingotlaw12_StampTexts_2 :: K) s = goR X r_ingotlaw12_StampTexts_2_o [16] K s := go_region _ _
@[go_sem] def r_ingotlaw12_StampTexts_3_o : List IOper := [
  ⟨(some 31), none, .mv (.t 2)⟩,
  ⟨(some 32), none, .mv (.t 3)⟩,
  ⟨(some 33), none, .mv (.t 4)⟩,
  ⟨(some 34), none, .mv (.t 5)⟩,
  ⟨(some 35), none, .mv (.t 6)⟩,
  ⟨(some 36), none, .mv (.t 7)⟩,
  ⟨(some 37), none, .call false n_stamp_Seconds [(.t 31), (.t 32), (.t 33), (.t 34), (.t 35), (.t 36)]⟩,
  ⟨(some 30), none, .mv (.t 37)⟩,
  ⟨(some 38), none, .ext (.t 30) 0⟩,
  ⟨(some 39), none, .ext (.t 30) 1⟩,
  ⟨(some 17), none, .asg (.t 38)⟩,
  ⟨(some 18), none, .asg (.t 39)⟩]
def r_ingotlaw12_StampTexts_3 : ICode := .region r_ingotlaw12_StampTexts_3_o [] [0, 1, 2, 3, 4, 5, 6, 7, 17, 18]
@[go_sem] theorem r_ingotlaw12_StampTexts_3_u {X : Kx} {K : List Kf} {s : St} : go X (.c r_ingotlaw12_StampTexts_3 :: K) s = goR X r_ingotlaw12_StampTexts_3_o [0, 1, 2, 3, 4, 5, 6, 7, 17, 18] K s := go_region _ _
@[go_sem] def r_ingotlaw12_StampTexts_4_o : List IOper := [
  ⟨(some 41), none, .mv (.t 2)⟩,
  ⟨(some 42), none, .mv (.t 3)⟩,
  ⟨(some 43), none, .mv (.t 4)⟩,
  ⟨(some 44), none, .mv (.t 5)⟩,
  ⟨(some 45), none, .mv (.t 6)⟩,
  ⟨(some 46), none, .mv (.t 7)⟩,
  ⟨(some 47), none, .call false n_ingotref12_Seconds [(.t 41), (.t 42), (.t 43), (.t 44), (.t 45), (.t 46)]⟩,
  ⟨(some 40), none, .mv (.t 47)⟩,
  ⟨(some 48), none, .ext (.t 40) 0⟩,
  ⟨(some 49), none, .ext (.t 40) 1⟩,
  ⟨(some 19), none, .asg (.t 48)⟩,
  ⟨(some 20), none, .asg (.t 49)⟩]
def r_ingotlaw12_StampTexts_4 : ICode := .region r_ingotlaw12_StampTexts_4_o [] [0, 1, 17, 18, 19, 20]
@[go_sem] theorem r_ingotlaw12_StampTexts_4_u {X : Kx} {K : List Kf} {s : St} : go X (.c r_ingotlaw12_StampTexts_4 :: K) s = goR X r_ingotlaw12_StampTexts_4_o [0, 1, 17, 18, 19, 20] K s := go_region _ _
@[go_sem] def r_ingotlaw12_StampTexts_5_o : List IOper := [
  ⟨(some 50), none, .mv (.t 17)⟩,
  ⟨(some 51), none, .mv (.t 19)⟩,
  ⟨(some 52), none, .bin .neq (.t 50) (.t 51)⟩,
  ⟨(some 53), none, .mv (.t 52)⟩,
  ⟨(some 54), some (53, false), .mv (.t 18)⟩,
  ⟨(some 55), some (53, false), .mv (.t 20)⟩,
  ⟨(some 56), some (53, false), .eqn true .bool (.t 54) (.t 55)⟩,
  ⟨(some 57), none, .pick (.t 53) (.c (.bool true)) (.t 56)⟩]
def r_ingotlaw12_StampTexts_5 : ICode := .region r_ingotlaw12_StampTexts_5_o [] [0, 1, 57]
@[go_sem] theorem r_ingotlaw12_StampTexts_5_u {X : Kx} {K : List Kf} {s : St} : go X (.c r_ingotlaw12_StampTexts_5 :: K) s = goR X r_ingotlaw12_StampTexts_5_o [0, 1, 57] K s := go_region _ _
@[go_sem] def r_ingotlaw12_StampTexts_6_o : List IOper := [
  ⟨(some 16), none, .asg (.c (.bool false))⟩]
def r_ingotlaw12_StampTexts_6 : ICode := .region r_ingotlaw12_StampTexts_6_o [] [16]
@[go_sem] theorem r_ingotlaw12_StampTexts_6_u {X : Kx} {K : List Kf} {s : St} : go X (.c r_ingotlaw12_StampTexts_6 :: K) s = goR X r_ingotlaw12_StampTexts_6_o [16] K s := go_region _ _
@[go_sem] def r_ingotlaw12_StampTexts_7_o : List IOper := [
  ⟨(some 58), none, .mv (.t 0)⟩,
  ⟨(some 59), none, .mv (.t 1)⟩,
  ⟨(some 60), none, .call false n_ingotref12_Check [(.t 58), (.t 59)]⟩,
  ⟨(some 61), none, .un .not (.t 60)⟩]
def r_ingotlaw12_StampTexts_7 : ICode := .region r_ingotlaw12_StampTexts_7_o [] [0, 1, 61]
@[go_sem] theorem r_ingotlaw12_StampTexts_7_u {X : Kx} {K : List Kf} {s : St} : go X (.c r_ingotlaw12_StampTexts_7 :: K) s = goR X r_ingotlaw12_StampTexts_7_o [0, 1, 61] K s := go_region _ _
@[go_sem] def r_ingotlaw12_StampTexts_8_o : List IOper := [
  ⟨(some 16), none, .asg (.c (.bool true))⟩]
def r_ingotlaw12_StampTexts_8 : ICode := .region r_ingotlaw12_StampTexts_8_o [] [16]
@[go_sem] theorem r_ingotlaw12_StampTexts_8_u {X : Kx} {K : List Kf} {s : St} : go X (.c r_ingotlaw12_StampTexts_8 :: K) s = goR X r_ingotlaw12_StampTexts_8_o [16] K s := go_region _ _
@[go_sem] def r_ingotlaw12_StampTexts_9_o : List IOper := [
  ⟨(some 63), none, .mv (.t 0)⟩,
  ⟨(some 64), none, .call false n_ingotref12_Split [(.t 63)]⟩,
  ⟨(some 62), none, .mv (.t 64)⟩,
  ⟨(some 65), none, .ext (.t 62) 0⟩,
  ⟨(some 66), none, .ext (.t 62) 1⟩,
  ⟨(some 21), none, .asg (.t 65)⟩,
  ⟨(some 22), none, .asg (.t 66)⟩]
def r_ingotlaw12_StampTexts_9 : ICode := .region r_ingotlaw12_StampTexts_9_o [] [0, 1, 21, 22]
@[go_sem] theorem r_ingotlaw12_StampTexts_9_u {X : Kx} {K : List Kf} {s : St} : go X (.c r_ingotlaw12_StampTexts_9 :: K) s = goR X r_ingotlaw12_StampTexts_9_o [0, 1, 21, 22] K s := go_region _ _
@[go_sem] def r_ingotlaw12_StampTexts_10_o : List IOper := [
  ⟨(some 67), none, .mv (.t 21)⟩,
  ⟨(some 68), none, .call false n_ingotref12_Known [(.t 67)]⟩,
  ⟨(some 69), none, .un .not (.t 68)⟩]
def r_ingotlaw12_StampTexts_10 : ICode := .region r_ingotlaw12_StampTexts_10_o [] [0, 1, 21, 22, 69]
@[go_sem] theorem r_ingotlaw12_StampTexts_10_u {X : Kx} {K : List Kf} {s : St} : go X (.c r_ingotlaw12_StampTexts_10 :: K) s = goR X r_ingotlaw12_StampTexts_10_o [0, 1, 21, 22, 69] K s := go_region _ _
@[go_sem] def r_ingotlaw12_StampTexts_11_o : List IOper := [
  ⟨(some 16), none, .asg (.c (.bool true))⟩]
def r_ingotlaw12_StampTexts_11 : ICode := .region r_ingotlaw12_StampTexts_11_o [] [16]
@[go_sem] theorem r_ingotlaw12_StampTexts_11_u {X : Kx} {K : List Kf} {s : St} : go X (.c r_ingotlaw12_StampTexts_11 :: K) s = goR X r_ingotlaw12_StampTexts_11_o [16] K s := go_region _ _
@[go_sem] def r_ingotlaw12_StampTexts_12_o : List IOper := [
  ⟨(some 71), none, .mv (.t 21)⟩,
  ⟨(some 72), none, .call false n_stamp_Date [(.t 71)]⟩,
  ⟨(some 70), none, .mv (.t 72)⟩,
  ⟨(some 73), none, .ext (.t 70) 0⟩,
  ⟨(some 74), none, .ext (.t 70) 1⟩,
  ⟨(some 75), none, .ext (.t 70) 2⟩,
  ⟨(some 23), none, .asg (.t 73)⟩,
  ⟨(some 24), none, .asg (.t 74)⟩,
  ⟨(some 25), none, .asg (.t 75)⟩]
def r_ingotlaw12_StampTexts_12 : ICode := .region r_ingotlaw12_StampTexts_12_o [] [0, 1, 22, 23, 24, 25]
@[go_sem] theorem r_ingotlaw12_StampTexts_12_u {X : Kx} {K : List Kf} {s : St} : go X (.c r_ingotlaw12_StampTexts_12 :: K) s = goR X r_ingotlaw12_StampTexts_12_o [0, 1, 22, 23, 24, 25] K s := go_region _ _
@[go_sem] def r_ingotlaw12_StampTexts_13_o : List IOper := [
  ⟨(some 77), none, .mv (.t 23)⟩,
  ⟨(some 78), none, .mv (.t 24)⟩,
  ⟨(some 79), none, .mv (.t 25)⟩,
  ⟨(some 80), none, .mv (.t 22)⟩,
  ⟨(some 81), none, .bin .quo (.t 80) (.c (.int .i64 3600))⟩,
  ⟨(some 82), none, .mv (.t 22)⟩,
  ⟨(some 83), none, .bin .quo (.t 82) (.c (.int .i64 60))⟩,
  ⟨(some 84), none, .bin .rem (.t 83) (.c (.int .i64 60))⟩,
  ⟨(some 85), none, .mv (.t 22)⟩,
  ⟨(some 86), none, .bin .rem (.t 85) (.c (.int .i64 60))⟩,
  ⟨(some 87), none, .call false n_stamp_Seconds [(.t 77), (.t 78), (.t 79), (.t 81), (.t 84), (.t 86)]⟩,
  ⟨(some 76), none, .mv (.t 87)⟩,
  ⟨(some 88), none, .ext (.t 76) 0⟩,
  ⟨(some 89), none, .ext (.t 76) 1⟩,
  ⟨(some 26), none, .asg (.t 88)⟩,
  ⟨(some 27), none, .asg (.t 89)⟩]
def r_ingotlaw12_StampTexts_13 : ICode := .region r_ingotlaw12_StampTexts_13_o [] [0, 1, 26, 27]
@[go_sem] theorem r_ingotlaw12_StampTexts_13_u {X : Kx} {K : List Kf} {s : St} : go X (.c r_ingotlaw12_StampTexts_13 :: K) s = goR X r_ingotlaw12_StampTexts_13_o [0, 1, 26, 27] K s := go_region _ _
@[go_sem] def r_ingotlaw12_StampTexts_14_o : List IOper := [
  ⟨(some 90), none, .mv (.t 0)⟩,
  ⟨(some 91), none, .mv (.t 1)⟩,
  ⟨(some 92), none, .call false n_stamp_Text [(.t 90), (.t 91)]⟩,
  ⟨(some 93), none, .mv (.t 0)⟩,
  ⟨(some 94), none, .mv (.t 1)⟩,
  ⟨(some 95), none, .call false n_ingotref12_Text [(.t 93), (.t 94)]⟩,
  ⟨(some 96), none, .bin .eql (.t 92) (.t 95)⟩,
  ⟨(some 97), none, .mv (.t 96)⟩,
  ⟨(some 98), some (97, true), .mv (.t 27)⟩,
  ⟨(some 99), none, .pick (.t 97) (.t 98) (.c (.bool false))⟩,
  ⟨(some 100), none, .mv (.t 99)⟩,
  ⟨(some 101), some (100, true), .mv (.t 26)⟩,
  ⟨(some 102), some (100, true), .mv (.t 0)⟩,
  ⟨(some 103), some (100, true), .bin .eql (.t 101) (.t 102)⟩,
  ⟨(some 104), none, .pick (.t 100) (.t 103) (.c (.bool false))⟩,
  ⟨(some 16), none, .asg (.t 104)⟩]
def r_ingotlaw12_StampTexts_14 : ICode := .region r_ingotlaw12_StampTexts_14_o [] [16]
@[go_sem] theorem r_ingotlaw12_StampTexts_14_u {X : Kx} {K : List Kf} {s : St} : go X (.c r_ingotlaw12_StampTexts_14 :: K) s = goR X r_ingotlaw12_StampTexts_14_o [16] K s := go_region _ _
def c_ingotlaw12_StampTexts : ICode := (.seq r_ingotlaw12_StampTexts_0 (.seq (.seq r_ingotlaw12_StampTexts_1 (.cond (.t 29) (.seq r_ingotlaw12_StampTexts_2 .ret) .skip)) (.seq r_ingotlaw12_StampTexts_3 (.seq r_ingotlaw12_StampTexts_4 (.seq (.seq r_ingotlaw12_StampTexts_5 (.cond (.t 57) (.seq r_ingotlaw12_StampTexts_6 .ret) .skip)) (.seq (.seq r_ingotlaw12_StampTexts_7 (.cond (.t 61) (.seq r_ingotlaw12_StampTexts_8 .ret) .skip)) (.seq r_ingotlaw12_StampTexts_9 (.seq (.seq r_ingotlaw12_StampTexts_10 (.cond (.t 69) (.seq r_ingotlaw12_StampTexts_11 .ret) .skip)) (.seq r_ingotlaw12_StampTexts_12 (.seq r_ingotlaw12_StampTexts_13 (.seq r_ingotlaw12_StampTexts_14 .ret)))))))))))
def i_ingotlaw12_StampTexts : IFunc := ⟨8, [.t 16], c_ingotlaw12_StampTexts⟩
def a_ingotlaw12_StampTexts : Advice := ⟨[], [(14, [16]), (13, [0, 1, 26, 27]), (12, [0, 1, 22, 23, 24, 25]), (11, [16]), (10, [0, 1, 21, 22, 69]), (9, [0, 1, 21, 22]), (8, [16]), (7, [0, 1, 61]), (6, [16]), (5, [0, 1, 57]), (4, [0, 1, 17, 18, 19, 20]), (3, [0, 1, 2, 3, 4, 5, 6, 7, 17, 18]), (2, [16]), (1, [0, 1, 2, 3, 4, 5, 6, 7, 29]), (0, [0, 1, 2, 3, 4, 5, 6, 7])], [], []⟩
/-! ingot/ingotlaw12.StampNext -/
@[go_sem] def r_ingotlaw12_StampNext_0_o : List IOper := [
  ⟨(some 2), none, .asg (.c (.bool false))⟩]
def r_ingotlaw12_StampNext_0 : ICode := .region r_ingotlaw12_StampNext_0_o [] [0]
@[go_sem] theorem r_ingotlaw12_StampNext_0_u {X : Kx} {K : List Kf} {s : St} : go X (.c r_ingotlaw12_StampNext_0 :: K) s = goR X r_ingotlaw12_StampNext_0_o [0] K s := go_region _ _
@[go_sem] def r_ingotlaw12_StampNext_1_o : List IOper := [
  ⟨(some 12), none, .call false n_ingotlaw12_known []⟩,
  ⟨(some 13), none, .un .not (.t 12)⟩]
def r_ingotlaw12_StampNext_1 : ICode := .region r_ingotlaw12_StampNext_1_o [] [0, 13]
@[go_sem] theorem r_ingotlaw12_StampNext_1_u {X : Kx} {K : List Kf} {s : St} : go X (.c r_ingotlaw12_StampNext_1 :: K) s = goR X r_ingotlaw12_StampNext_1_o [0, 13] K s := go_region _ _
@[go_sem] def r_ingotlaw12_StampNext_2_o : List IOper := [
  ⟨(some 2), none, .asg (.c (.bool false))⟩]
def r_ingotlaw12_StampNext_2 : ICode := .region r_ingotlaw12_StampNext_2_o [] [2]
@[go_sem] theorem r_ingotlaw12_StampNext_2_u {X : Kx} {K : List Kf} {s : St} : go X (.c r_ingotlaw12_StampNext_2 :: K) s = goR X r_ingotlaw12_StampNext_2_o [2] K s := go_region _ _
@[go_sem] def r_ingotlaw12_StampNext_3_o : List IOper := [
  ⟨(some 14), none, .mv (.t 0)⟩,
  ⟨(some 15), none, .call false n_ingotref12_Known [(.t 14)]⟩,
  ⟨(some 16), none, .un .not (.t 15)⟩,
  ⟨(some 17), none, .mv (.t 16)⟩,
  ⟨(some 18), some (17, false), .mv (.t 0)⟩,
  ⟨(some 19), some (17, false), .bin .gtr (.t 18) (.c (.int .i64 1099511627776))⟩,
  ⟨(some 20), none, .pick (.t 17) (.c (.bool true)) (.t 19)⟩,
  ⟨(some 21), none, .mv (.t 20)⟩,
  ⟨(some 22), some (21, false), .mv (.t 0)⟩,
  ⟨(some 23), some (21, false), .bin .add (.t 22) (.c (.int .i64 1))⟩,
  ⟨(some 24), some (21, false), .call false n_ingotref12_Known [(.t 23)]⟩,
  ⟨(some 25), some (21, false), .un .not (.t 24)⟩,
  ⟨(some 26), none, .pick (.t 21) (.c (.bool true)) (.t 25)⟩]
def r_ingotlaw12_StampNext_3 : ICode := .region r_ingotlaw12_StampNext_3_o [] [0, 26]
@[go_sem] theorem r_ingotlaw12_StampNext_3_u {X : Kx} {K : List Kf} {s : St} : go X (.c r_ingotlaw12_StampNext_3 :: K) s = goR X r_ingotlaw12_StampNext_3_o [0, 26] K s := go_region _ _
@[go_sem] def r_ingotlaw12_StampNext_4_o : List IOper := [
  ⟨(some 2), none, .asg (.c (.bool true))⟩]
def r_ingotlaw12_StampNext_4 : ICode := .region r_ingotlaw12_StampNext_4_o [] [2]
@[go_sem] theorem r_ingotlaw12_StampNext_4_u {X : Kx} {K : List Kf} {s : St} : go X (.c r_ingotlaw12_StampNext_4 :: K) s = goR X r_ingotlaw12_StampNext_4_o [2] K s := go_region _ _
@[go_sem] def r_ingotlaw12_StampNext_5_o : List IOper := [
  ⟨(some 28), none, .mv (.t 0)⟩,
  ⟨(some 29), none, .call false n_stamp_Date [(.t 28)]⟩,
  ⟨(some 27), none, .mv (.t 29)⟩,
  ⟨(some 30), none, .ext (.t 27) 0⟩,
  ⟨(some 31), none, .ext (.t 27) 1⟩,
  ⟨(some 32), none, .ext (.t 27) 2⟩,
  ⟨(some 3), none, .asg (.t 30)⟩,
  ⟨(some 4), none, .asg (.t 31)⟩,
  ⟨(some 5), none, .asg (.t 32)⟩]
def r_ingotlaw12_StampNext_5 : ICode := .region r_ingotlaw12_StampNext_5_o [] [0, 3, 4, 5]
@[go_sem] theorem r_ingotlaw12_StampNext_5_u {X : Kx} {K : List Kf} {s : St} : go X (.c r_ingotlaw12_StampNext_5 :: K) s = goR X r_ingotlaw12_StampNext_5_o [0, 3, 4, 5] K s := go_region _ _
@[go_sem] def r_ingotlaw12_StampNext_6_o : List IOper := [
  ⟨(some 34), none, .mv (.t 0)⟩,
  ⟨(some 35), none, .bin .add (.t 34) (.c (.int .i64 1))⟩,
  ⟨(some 36), none, .call false n_stamp_Date [(.t 35)]⟩,
  ⟨(some 33), none, .mv (.t 36)⟩,
  ⟨(some 37), none, .ext (.t 33) 0⟩,
  ⟨(some 38), none, .ext (.t 33) 1⟩,
  ⟨(some 39), none, .ext (.t 33) 2⟩,
  ⟨(some 6), none, .asg (.t 37)⟩,
  ⟨(some 7), none, .asg (.t 38)⟩,
  ⟨(some 8), none, .asg (.t 39)⟩]
def r_ingotlaw12_StampNext_6 : ICode := .region r_ingotlaw12_StampNext_6_o [] [3, 4, 5, 6, 7, 8]
@[go_sem] theorem r_ingotlaw12_StampNext_6_u {X : Kx} {K : List Kf} {s : St} : go X (.c r_ingotlaw12_StampNext_6 :: K) s = goR X r_ingotlaw12_StampNext_6_o [3, 4, 5, 6, 7, 8] K s := go_region _ _
@[go_sem] def r_ingotlaw12_StampNext_7_o : List IOper := [
  ⟨(some 40), none, .mv (.t 6)⟩,
  ⟨(some 41), none, .mv (.t 3)⟩,
  ⟨(some 42), none, .bin .eql (.t 40) (.t 41)⟩,
  ⟨(some 43), none, .mv (.t 42)⟩,
  ⟨(some 44), some (43, true), .mv (.t 7)⟩,
  ⟨(some 45), some (43, true), .mv (.t 4)⟩,
  ⟨(some 46), some (43, true), .bin .eql (.t 44) (.t 45)⟩,
  ⟨(some 47), none, .pick (.t 43) (.t 46) (.c (.bool false))⟩,
  ⟨(some 48), none, .mv (.t 47)⟩,
  ⟨(some 49), some (48, true), .mv (.t 8)⟩,
  ⟨(some 50), some (48, true), .mv (.t 5)⟩,
  ⟨(some 51), some (48, true), .bin .add (.t 50) (.c (.int .i64 1))⟩,
  ⟨(some 52), some (48, true), .bin .eql (.t 49) (.t 51)⟩,
  ⟨(some 53), none, .pick (.t 48) (.t 52) (.c (.bool false))⟩,
  ⟨(some 9), none, .asg (.t 53)⟩]
def r_ingotlaw12_StampNext_7 : ICode := .region r_ingotlaw12_StampNext_7_o [] [3, 4, 5, 6, 7, 8, 9]
@[go_sem] theorem r_ingotlaw12_StampNext_7_u {X : Kx} {K : List Kf} {s : St} : go X (.c r_ingotlaw12_StampNext_7 :: K) s = goR X r_ingotlaw12_StampNext_7_o [3, 4, 5, 6, 7, 8, 9] K s := go_region _ _
@[go_sem] def r_ingotlaw12_StampNext_8_o : List IOper := [
  ⟨(some 54), none, .mv (.t 6)⟩,
  ⟨(some 55), none, .mv (.t 3)⟩,
  ⟨(some 56), none, .bin .eql (.t 54) (.t 55)⟩,
  ⟨(some 57), none, .mv (.t 56)⟩,
  ⟨(some 58), some (57, true), .mv (.t 7)⟩,
  ⟨(some 59), some (57, true), .mv (.t 4)⟩,
  ⟨(some 60), some (57, true), .bin .add (.t 59) (.c (.int .i64 1))⟩,
  ⟨(some 61), some (57, true), .bin .eql (.t 58) (.t 60)⟩,
  ⟨(some 62), none, .pick (.t 57) (.t 61) (.c (.bool false))⟩,
  ⟨(some 63), none, .mv (.t 62)⟩,
  ⟨(some 64), some (63, true), .mv (.t 8)⟩,
  ⟨(some 65), some (63, true), .bin .eql (.t 64) (.c (.int .i64 1))⟩,
  ⟨(some 66), none, .pick (.t 63) (.t 65) (.c (.bool false))⟩,
  ⟨(some 67), none, .mv (.t 66)⟩,
  ⟨(some 68), some (67, true), .mv (.t 5)⟩,
  ⟨(some 69), some (67, true), .bin .geq (.t 68) (.c (.int .i64 28))⟩,
  ⟨(some 70), none, .pick (.t 67) (.t 69) (.c (.bool false))⟩,
  ⟨(some 10), none, .asg (.t 70)⟩]
def r_ingotlaw12_StampNext_8 : ICode := .region r_ingotlaw12_StampNext_8_o [] [3, 4, 5, 6, 7, 8, 9, 10]
@[go_sem] theorem r_ingotlaw12_StampNext_8_u {X : Kx} {K : List Kf} {s : St} : go X (.c r_ingotlaw12_StampNext_8 :: K) s = goR X r_ingotlaw12_StampNext_8_o [3, 4, 5, 6, 7, 8, 9, 10] K s := go_region _ _
@[go_sem] def r_ingotlaw12_StampNext_9_o : List IOper := [
  ⟨(some 71), none, .mv (.t 6)⟩,
  ⟨(some 72), none, .mv (.t 3)⟩,
  ⟨(some 73), none, .bin .add (.t 72) (.c (.int .i64 1))⟩,
  ⟨(some 74), none, .bin .eql (.t 71) (.t 73)⟩,
  ⟨(some 75), none, .mv (.t 74)⟩,
  ⟨(some 76), some (75, true), .mv (.t 7)⟩,
  ⟨(some 77), some (75, true), .bin .eql (.t 76) (.c (.int .i64 1))⟩,
  ⟨(some 78), none, .pick (.t 75) (.t 77) (.c (.bool false))⟩,
  ⟨(some 79), none, .mv (.t 78)⟩,
  ⟨(some 80), some (79, true), .mv (.t 8)⟩,
  ⟨(some 81), some (79, true), .bin .eql (.t 80) (.c (.int .i64 1))⟩,
  ⟨(some 82), none, .pick (.t 79) (.t 81) (.c (.bool false))⟩,
  ⟨(some 83), none, .mv (.t 82)⟩,
  ⟨(some 84), some (83, true), .mv (.t 4)⟩,
  ⟨(some 85), some (83, true), .bin .eql (.t 84) (.c (.int .i64 12))⟩,
  ⟨(some 86), none, .pick (.t 83) (.t 85) (.c (.bool false))⟩,
  ⟨(some 87), none, .mv (.t 86)⟩,
  ⟨(some 88), some (87, true), .mv (.t 5)⟩,
  ⟨(some 89), some (87, true), .bin .eql (.t 88) (.c (.int .i64 31))⟩,
  ⟨(some 90), none, .pick (.t 87) (.t 89) (.c (.bool false))⟩,
  ⟨(some 11), none, .asg (.t 90)⟩]
def r_ingotlaw12_StampNext_9 : ICode := .region r_ingotlaw12_StampNext_9_o [] [9, 10, 11]
@[go_sem] theorem r_ingotlaw12_StampNext_9_u {X : Kx} {K : List Kf} {s : St} : go X (.c r_ingotlaw12_StampNext_9 :: K) s = goR X r_ingotlaw12_StampNext_9_o [9, 10, 11] K s := go_region _ _
@[go_sem] def r_ingotlaw12_StampNext_10_o : List IOper := [
  ⟨(some 91), none, .mv (.t 9)⟩,
  ⟨(some 92), none, .mv (.t 91)⟩,
  ⟨(some 93), some (92, false), .mv (.t 10)⟩,
  ⟨(some 94), none, .pick (.t 92) (.c (.bool true)) (.t 93)⟩,
  ⟨(some 95), none, .mv (.t 94)⟩,
  ⟨(some 96), some (95, false), .mv (.t 11)⟩,
  ⟨(some 97), none, .pick (.t 95) (.c (.bool true)) (.t 96)⟩,
  ⟨(some 2), none, .asg (.t 97)⟩]
def r_ingotlaw12_StampNext_10 : ICode := .region r_ingotlaw12_StampNext_10_o [] [2]
@[go_sem] theorem r_ingotlaw12_StampNext_10_u {X : Kx} {K : List Kf} {s : St} : go X (.c r_ingotlaw12_StampNext_10 :: K) s = goR X r_ingotlaw12_StampNext_10_o [2] K s := go_region _ _
def c_ingotlaw12_StampNext : ICode := (.seq r_ingotlaw12_StampNext_0 (.seq (.seq r_ingotlaw12_StampNext_1 (.cond (.t 13) (.seq r_ingotlaw12_StampNext_2 .ret) .skip)) (.seq (.seq r_ingotlaw12_StampNext_3 (.cond (.t 26) (.seq r_ingotlaw12_StampNext_4 .ret) .skip)) (.seq r_ingotlaw12_StampNext_5 (.seq r_ingotlaw12_StampNext_6 (.seq r_ingotlaw12_StampNext_7 (.seq r_ingotlaw12_StampNext_8 (.seq r_ingotlaw12_StampNext_9 (.seq r_ingotlaw12_StampNext_10 .ret)))))))))
def i_ingotlaw12_StampNext : IFunc := ⟨1, [.t 2], c_ingotlaw12_StampNext⟩
def a_ingotlaw12_StampNext : Advice := ⟨[], [(10, [2]), (9, [9, 10, 11]), (8, [3, 4, 5, 6, 7, 8, 9, 10]), (7, [3, 4, 5, 6, 7, 8, 9]), (6, [3, 4, 5, 6, 7, 8]), (5, [0, 3, 4, 5]), (4, [2]), (3, [0, 26]), (2, [2]), (1, [0, 13]), (0, [0])], [], []⟩
/-! ingot/ingotref12.Date -/
@[go_sem] def r_ingotref12_Date_0_o : List IOper := [
  ⟨(some 2), none, .asg (.c (.int .i64 0))⟩,
  ⟨(some 3), none, .asg (.c (.int .i64 0))⟩,
  ⟨(some 4), none, .asg (.c (.int .i64 0))⟩]
def r_ingotref12_Date_0 : ICode := .region r_ingotref12_Date_0_o [] [0]
@[go_sem] theorem r_ingotref12_Date_0_u {X : Kx} {K : List Kf} {s : St} : go X (.c r_ingotref12_Date_0 :: K) s = goR X r_ingotref12_Date_0_o [0] K s := go_region _ _
@[go_sem] def r_ingotref12_Date_1_o : List IOper := [
  ⟨(some 5), none, .asg (.c (.int .i64 (-9999)))⟩]
def r_ingotref12_Date_1 : ICode := .region r_ingotref12_Date_1_o [] [0, 5]
@[go_sem] theorem r_ingotref12_Date_1_u {X : Kx} {K : List Kf} {s : St} : go X (.c r_ingotref12_Date_1 :: K) s = goR X r_ingotref12_Date_1_o [0, 5] K s := go_region _ _
@[go_sem] def r_ingotref12_Date_2_o : List IOper := [
  ⟨(some 6), none, .asg (.c (.int .i64 9999))⟩]
def r_ingotref12_Date_2 : ICode := .region r_ingotref12_Date_2_o [] [0, 5, 6]
@[go_sem] theorem r_ingotref12_Date_2_u {X : Kx} {K : List Kf} {s : St} : go X (.c r_ingotref12_Date_2 :: K) s = goR X r_ingotref12_Date_2_o [0, 5, 6] K s := go_region _ _
@[go_sem] def r_ingotref12_Date_3_o : List IOper := [
  ⟨(some 10), none, .mv (.t 5)⟩,
  ⟨(some 11), none, .mv (.t 6)⟩,
  ⟨(some 12), none, .bin .lss (.t 10) (.t 11)⟩]
def r_ingotref12_Date_3 : ICode := .region r_ingotref12_Date_3_o [] [0, 5, 6, 12]
@[go_sem] theorem r_ingotref12_Date_3_u {X : Kx} {K : List Kf} {s : St} : go X (.c r_ingotref12_Date_3 :: K) s = goR X r_ingotref12_Date_3_o [0, 5, 6, 12] K s := go_region _ _
@[go_sem] def r_ingotref12_Date_4_o : List IOper := [
  ⟨(some 13), none, .mv (.t 5)⟩,
  ⟨(some 14), none, .mv (.t 6)⟩,
  ⟨(some 15), none, .bin .add (.t 13) (.t 14)⟩,
  ⟨(some 16), none, .bin .add (.t 15) (.c (.int .i64 1))⟩,
  ⟨(some 17), none, .call false n_ingotref12_floor [(.t 16), (.c (.int .i64 2))]⟩,
  ⟨(some 7), none, .asg (.t 17)⟩]
def r_ingotref12_Date_4 : ICode := .region r_ingotref12_Date_4_o [] [0, 5, 6, 7]
@[go_sem] theorem r_ingotref12_Date_4_u {X : Kx} {K : List Kf} {s : St} : go X (.c r_ingotref12_Date_4 :: K) s = goR X r_ingotref12_Date_4_o [0, 5, 6, 7] K s := go_region _ _
@[go_sem] def r_ingotref12_Date_5_o : List IOper := [
  ⟨(some 18), none, .mv (.t 7)⟩,
  ⟨(some 19), none, .call false n_ingotref12_first [(.t 18)]⟩,
  ⟨(some 20), none, .mv (.t 0)⟩,
  ⟨(some 21), none, .bin .leq (.t 19) (.t 20)⟩]
def r_ingotref12_Date_5 : ICode := .region r_ingotref12_Date_5_o [] [0, 5, 6, 7, 21]
@[go_sem] theorem r_ingotref12_Date_5_u {X : Kx} {K : List Kf} {s : St} : go X (.c r_ingotref12_Date_5 :: K) s = goR X r_ingotref12_Date_5_o [0, 5, 6, 7, 21] K s := go_region _ _
@[go_sem] def r_ingotref12_Date_6_o : List IOper := [
  ⟨(some 22), none, .mv (.t 7)⟩,
  ⟨(some 5), none, .asg (.t 22)⟩]
def r_ingotref12_Date_6 : ICode := .region r_ingotref12_Date_6_o [] [0, 5, 6]
@[go_sem] theorem r_ingotref12_Date_6_u {X : Kx} {K : List Kf} {s : St} : go X (.c r_ingotref12_Date_6 :: K) s = goR X r_ingotref12_Date_6_o [0, 5, 6] K s := go_region _ _
@[go_sem] def r_ingotref12_Date_7_o : List IOper := [
  ⟨(some 23), none, .mv (.t 7)⟩,
  ⟨(some 24), none, .bin .sub (.t 23) (.c (.int .i64 1))⟩,
  ⟨(some 6), none, .asg (.t 24)⟩]
def r_ingotref12_Date_7 : ICode := .region r_ingotref12_Date_7_o [] [0, 5, 6]
@[go_sem] theorem r_ingotref12_Date_7_u {X : Kx} {K : List Kf} {s : St} : go X (.c r_ingotref12_Date_7 :: K) s = goR X r_ingotref12_Date_7_o [0, 5, 6] K s := go_region _ _
def b_ingotref12_Date_8 : ICode := (.seq (.seq r_ingotref12_Date_3 (.cond (.t 12) .skip (.exit 0))) (.block 1 (.seq r_ingotref12_Date_4 (.seq r_ingotref12_Date_5 (.cond (.t 21) r_ingotref12_Date_6 r_ingotref12_Date_7)))))
@[go_sem] theorem b_ingotref12_Date_8_u {X : Kx} {K : List Kf} {s : St} : go X (.c b_ingotref12_Date_8 :: K) s = go X (.c (.seq (.seq r_ingotref12_Date_3 (.cond (.t 12) .skip (.exit 0))) (.block 1 (.seq r_ingotref12_Date_4 (.seq r_ingotref12_Date_5 (.cond (.t 21) r_ingotref12_Date_6 r_ingotref12_Date_7))))) :: K) s := rfl
@[go_sem] def r_ingotref12_Date_9_o : List IOper := [
  ⟨(some 25), none, .mv (.t 0)⟩,
  ⟨(some 26), none, .mv (.t 5)⟩,
  ⟨(some 27), none, .call false n_ingotref12_first [(.t 26)]⟩,
  ⟨(some 28), none, .bin .sub (.t 25) (.t 27)⟩,
  ⟨(some 8), none, .asg (.t 28)⟩]
def r_ingotref12_Date_9 : ICode := .region r_ingotref12_Date_9_o [] [5, 8]
@[go_sem] theorem r_ingotref12_Date_9_u {X : Kx} {K : List Kf} {s : St} : go X (.c r_ingotref12_Date_9 :: K) s = goR X r_ingotref12_Date_9_o [5, 8] K s := go_region _ _
@[go_sem] def r_ingotref12_Date_10_o : List IOper := [
  ⟨(some 9), none, .asg (.c (.int .i64 1))⟩]
def r_ingotref12_Date_10 : ICode := .region r_ingotref12_Date_10_o [] [5, 8, 9]
@[go_sem] theorem r_ingotref12_Date_10_u {X : Kx} {K : List Kf} {s : St} : go X (.c r_ingotref12_Date_10 :: K) s = goR X r_ingotref12_Date_10_o [5, 8, 9] K s := go_region _ _
@[go_sem] def r_ingotref12_Date_11_o : List IOper := [
  ⟨(some 29), none, .mv (.t 9)⟩,
  ⟨(some 30), none, .bin .lss (.t 29) (.c (.int .i64 12))⟩,
  ⟨(some 31), none, .mv (.t 30)⟩,
  ⟨(some 32), some (31, true), .mv (.t 8)⟩,
  ⟨(some 33), some (31, true), .mv (.t 5)⟩,
  ⟨(some 34), some (31, true), .mv (.t 9)⟩,
  ⟨(some 35), some (31, true), .call false n_ingotref12_month [(.t 33), (.t 34)]⟩,
  ⟨(some 36), some (31, true), .bin .geq (.t 32) (.t 35)⟩,
  ⟨(some 37), none, .pick (.t 31) (.t 36) (.c (.bool false))⟩]
def r_ingotref12_Date_11 : ICode := .region r_ingotref12_Date_11_o [] [5, 8, 9, 37]
@[go_sem] theorem r_ingotref12_Date_11_u {X : Kx} {K : List Kf} {s : St} : go X (.c r_ingotref12_Date_11 :: K) s = goR X r_ingotref12_Date_11_o [5, 8, 9, 37] K s := go_region _ _
@[go_sem] def r_ingotref12_Date_12_o : List IOper := [
  ⟨(some 38), none, .mv (.t 8)⟩,
  ⟨(some 39), none, .mv (.t 5)⟩,
  ⟨(some 40), none, .mv (.t 9)⟩,
  ⟨(some 41), none, .call false n_ingotref12_month [(.t 39), (.t 40)]⟩,
  ⟨(some 42), none, .bin .sub (.t 38) (.t 41)⟩,
  ⟨(some 8), none, .asg (.t 42)⟩]
def r_ingotref12_Date_12 : ICode := .region r_ingotref12_Date_12_o [] [5, 8, 9]
@[go_sem] theorem r_ingotref12_Date_12_u {X : Kx} {K : List Kf} {s : St} : go X (.c r_ingotref12_Date_12 :: K) s = goR X r_ingotref12_Date_12_o [5, 8, 9] K s := go_region _ _
@[go_sem] def r_ingotref12_Date_13_o : List IOper := [
  ⟨(some 43), none, .mv (.t 9)⟩,
  ⟨(some 44), none, .bin .add (.t 43) (.c (.int .i64 1))⟩,
  ⟨(some 9), none, .asg (.t 44)⟩]
def r_ingotref12_Date_13 : ICode := .region r_ingotref12_Date_13_o [] [5, 8, 9]
@[go_sem] theorem r_ingotref12_Date_13_u {X : Kx} {K : List Kf} {s : St} : go X (.c r_ingotref12_Date_13 :: K) s = goR X r_ingotref12_Date_13_o [5, 8, 9] K s := go_region _ _
def b_ingotref12_Date_14 : ICode := (.seq (.seq r_ingotref12_Date_11 (.cond (.t 37) .skip (.exit 2))) (.block 3 (.seq r_ingotref12_Date_12 r_ingotref12_Date_13)))
@[go_sem] theorem b_ingotref12_Date_14_u {X : Kx} {K : List Kf} {s : St} : go X (.c b_ingotref12_Date_14 :: K) s = go X (.c (.seq (.seq r_ingotref12_Date_11 (.cond (.t 37) .skip (.exit 2))) (.block 3 (.seq r_ingotref12_Date_12 r_ingotref12_Date_13))) :: K) s := rfl
@[go_sem] def r_ingotref12_Date_15_o : List IOper := [
  ⟨(some 45), none, .mv (.t 5)⟩,
  ⟨(some 46), none, .mv (.t 9)⟩,
  ⟨(some 47), none, .mv (.t 8)⟩,
  ⟨(some 48), none, .bin .add (.t 47) (.c (.int .i64 1))⟩,
  ⟨(some 2), none, .asg (.t 45)⟩,
  ⟨(some 3), none, .asg (.t 46)⟩,
  ⟨(some 4), none, .asg (.t 48)⟩]
def r_ingotref12_Date_15 : ICode := .region r_ingotref12_Date_15_o [] [2, 3, 4]
@[go_sem] theorem r_ingotref12_Date_15_u {X : Kx} {K : List Kf} {s : St} : go X (.c r_ingotref12_Date_15 :: K) s = goR X r_ingotref12_Date_15_o [2, 3, 4] K s := go_region _ _
def c_ingotref12_Date : ICode := (.seq r_ingotref12_Date_0 (.seq r_ingotref12_Date_1 (.seq r_ingotref12_Date_2 (.seq (.block 0 (.loop b_ingotref12_Date_8)) (.seq r_ingotref12_Date_9 (.seq r_ingotref12_Date_10 (.seq (.block 2 (.loop b_ingotref12_Date_14)) (.seq r_ingotref12_Date_15 .ret))))))))
def i_ingotref12_Date : IFunc := ⟨1, [.t 2, .t 3, .t 4], c_ingotref12_Date⟩
def a_ingotref12_Date : Advice := ⟨[], [(13, [2, 3, 4]), (12, [5, 8, 9]), (11, [5, 8, 9]), (10, [5, 8, 9, 37]), (9, [5, 8, 9]), (8, [5, 8]), (6, [0, 5, 6]), (7, [0, 5, 6]), (5, [0, 5, 6, 7, 21]), (4, [0, 5, 6, 7]), (3, [0, 5, 6, 12]), (2, [0, 5, 6]), (1, [0, 5]), (0, [0])], [], []⟩
/-! ingot/ingotref12.Known -/
@[go_sem] def r_ingotref12_Known_0_o : List IOper := [
  ⟨(some 2), none, .asg (.c (.bool false))⟩]
def r_ingotref12_Known_0 : ICode := .region r_ingotref12_Known_0_o [] [0]
@[go_sem] theorem r_ingotref12_Known_0_u {X : Kx} {K : List Kf} {s : St} : go X (.c r_ingotref12_Known_0 :: K) s = goR X r_ingotref12_Known_0_o [0] K s := go_region _ _
@[go_sem] def r_ingotref12_Known_1_o : List IOper := [
  ⟨(some 8), none, .call false n_ingotref12_Days [(.c (.int .i64 (-9999))), (.c (.int .i64 1)), (.c (.int .i64 1))]⟩,
  ⟨(some 7), none, .mv (.t 8)⟩,
  ⟨(some 9), none, .ext (.t 7) 0⟩,
  ⟨(some 10), none, .ext (.t 7) 1⟩,
  ⟨(some 3), none, .asg (.t 9)⟩,
  ⟨(some 4), none, .asg (.t 10)⟩]
def r_ingotref12_Known_1 : ICode := .region r_ingotref12_Known_1_o [] [0, 3]
@[go_sem] theorem r_ingotref12_Known_1_u {X : Kx} {K : List Kf} {s : St} : go X (.c r_ingotref12_Known_1 :: K) s = goR X r_ingotref12_Known_1_o [0, 3] K s := go_region _ _
@[go_sem] def r_ingotref12_Known_2_o : List IOper := [
  ⟨(some 12), none, .call false n_ingotref12_Days [(.c (.int .i64 9999)), (.c (.int .i64 12)), (.c (.int .i64 31))]⟩,
  ⟨(some 11), none, .mv (.t 12)⟩,
  ⟨(some 13), none, .ext (.t 11) 0⟩,
  ⟨(some 14), none, .ext (.t 11) 1⟩,
  ⟨(some 5), none, .asg (.t 13)⟩,
  ⟨(some 6), none, .asg (.t 14)⟩]
def r_ingotref12_Known_2 : ICode := .region r_ingotref12_Known_2_o [] [0, 3, 5]
@[go_sem] theorem r_ingotref12_Known_2_u {X : Kx} {K : List Kf} {s : St} : go X (.c r_ingotref12_Known_2 :: K) s = goR X r_ingotref12_Known_2_o [0, 3, 5] K s := go_region _ _
@[go_sem] def r_ingotref12_Known_3_o : List IOper := [
  ⟨(some 15), none, .mv (.t 0)⟩,
  ⟨(some 16), none, .mv (.t 3)⟩,
  ⟨(some 17), none, .bin .geq (.t 15) (.t 16)⟩,
  ⟨(some 18), none, .mv (.t 17)⟩,
  ⟨(some 19), some (18, true), .mv (.t 0)⟩,
  ⟨(some 20), some (18, true), .mv (.t 5)⟩,
  ⟨(some 21), some (18, true), .bin .leq (.t 19) (.t 20)⟩,
  ⟨(some 22), none, .pick (.t 18) (.t 21) (.c (.bool false))⟩,
  ⟨(some 2), none, .asg (.t 22)⟩]
def r_ingotref12_Known_3 : ICode := .region r_ingotref12_Known_3_o [] [2]
@[go_sem] theorem r_ingotref12_Known_3_u {X : Kx} {K : List Kf} {s : St} : go X (.c r_ingotref12_Known_3 :: K) s = goR X r_ingotref12_Known_3_o [2] K s := go_region _ _
def c_ingotref12_Known : ICode := (.seq r_ingotref12_Known_0 (.seq r_ingotref12_Known_1 (.seq r_ingotref12_Known_2 (.seq r_ingotref12_Known_3 .ret))))
def i_ingotref12_Known : IFunc := ⟨1, [.t 2], c_ingotref12_Known⟩
def a_ingotref12_Known : Advice := ⟨[], [(3, [2]), (2, [0, 3, 5]), (1, [0, 3]), (0, [0])], [], []⟩
/-! ingot/ingotref12.floor -/
@[go_sem] def r_ingotref12_floor_0_o : List IOper := [
  ⟨(some 4), none, .asg (.c (.int .i64 0))⟩]
def r_ingotref12_floor_0 : ICode := .region r_ingotref12_floor_0_o [] [0, 1]
@[go_sem] theorem r_ingotref12_floor_0_u {X : Kx} {K : List Kf} {s : St} : go X (.c r_ingotref12_floor_0 :: K) s = goR X r_ingotref12_floor_0_o [0, 1] K s := go_region _ _
@[go_sem] def r_ingotref12_floor_1_o : List IOper := [
  ⟨(some 6), none, .mv (.t 0)⟩,
  ⟨(some 7), none, .mv (.t 1)⟩,
  ⟨(some 8), none, .bin .quo (.t 6) (.t 7)⟩,
  ⟨(some 5), none, .asg (.t 8)⟩]
def r_ingotref12_floor_1 : ICode := .region r_ingotref12_floor_1_o [] [0, 1, 5]
@[go_sem] theorem r_ingotref12_floor_1_u {X : Kx} {K : List Kf} {s : St} : go X (.c r_ingotref12_floor_1 :: K) s = goR X r_ingotref12_floor_1_o [0, 1, 5] K s := go_region _ _
@[go_sem] def r_ingotref12_floor_2_o : List IOper := [
  ⟨(some 9), none, .mv (.t 0)⟩,
  ⟨(some 10), none, .mv (.t 1)⟩,
  ⟨(some 11), none, .bin .rem (.t 9) (.t 10)⟩,
  ⟨(some 12), none, .bin .lss (.t 11) (.c (.int .i64 0))⟩]
def r_ingotref12_floor_2 : ICode := .region r_ingotref12_floor_2_o [] [5, 12]
@[go_sem] theorem r_ingotref12_floor_2_u {X : Kx} {K : List Kf} {s : St} : go X (.c r_ingotref12_floor_2 :: K) s = goR X r_ingotref12_floor_2_o [5, 12] K s := go_region _ _
@[go_sem] def r_ingotref12_floor_3_o : List IOper := [
  ⟨(some 13), none, .mv (.t 5)⟩,
  ⟨(some 14), none, .bin .sub (.t 13) (.c (.int .i64 1))⟩,
  ⟨(some 5), none, .asg (.t 14)⟩]
def r_ingotref12_floor_3 : ICode := .region r_ingotref12_floor_3_o [] [5]
@[go_sem] theorem r_ingotref12_floor_3_u {X : Kx} {K : List Kf} {s : St} : go X (.c r_ingotref12_floor_3 :: K) s = goR X r_ingotref12_floor_3_o [5] K s := go_region _ _
@[go_sem] def r_ingotref12_floor_4_o : List IOper := [
  ⟨(some 15), none, .mv (.t 5)⟩,
  ⟨(some 4), none, .asg (.t 15)⟩]
def r_ingotref12_floor_4 : ICode := .region r_ingotref12_floor_4_o [] [4]
@[go_sem] theorem r_ingotref12_floor_4_u {X : Kx} {K : List Kf} {s : St} : go X (.c r_ingotref12_floor_4 :: K) s = goR X r_ingotref12_floor_4_o [4] K s := go_region _ _
def c_ingotref12_floor : ICode := (.seq r_ingotref12_floor_0 (.seq r_ingotref12_floor_1 (.seq (.seq r_ingotref12_floor_2 (.cond (.t 12) r_ingotref12_floor_3 .skip)) (.seq r_ingotref12_floor_4 .ret))))
def i_ingotref12_floor : IFunc := ⟨2, [.t 4], c_ingotref12_floor⟩
def a_ingotref12_floor : Advice := ⟨[], [(4, [4]), (3, [5]), (2, [5, 12]), (1, [0, 1, 5]), (0, [0, 1])], [], []⟩
/-! ingot/ingotref12.first -/
@[go_sem] def r_ingotref12_first_0_o : List IOper := [
  ⟨(some 2), none, .asg (.c (.int .i64 0))⟩]
def r_ingotref12_first_0 : ICode := .region r_ingotref12_first_0_o [] [0]
@[go_sem] theorem r_ingotref12_first_0_u {X : Kx} {K : List Kf} {s : St} : go X (.c r_ingotref12_first_0 :: K) s = goR X r_ingotref12_first_0_o [0] K s := go_region _ _
@[go_sem] def r_ingotref12_first_1_o : List IOper := [
  ⟨(some 4), none, .mv (.t 0)⟩,
  ⟨(some 5), none, .bin .sub (.t 4) (.c (.int .i64 1))⟩,
  ⟨(some 3), none, .asg (.t 5)⟩]
def r_ingotref12_first_1 : ICode := .region r_ingotref12_first_1_o [] [0, 3]
@[go_sem] theorem r_ingotref12_first_1_u {X : Kx} {K : List Kf} {s : St} : go X (.c r_ingotref12_first_1 :: K) s = goR X r_ingotref12_first_1_o [0, 3] K s := go_region _ _
@[go_sem] def r_ingotref12_first_2_o : List IOper := [
  ⟨(some 6), none, .mv (.t 0)⟩,
  ⟨(some 7), none, .bin .sub (.t 6) (.c (.int .i64 1970))⟩,
  ⟨(some 8), none, .bin .mul (.c (.int .i64 365)) (.t 7)⟩,
  ⟨(some 9), none, .mv (.t 3)⟩,
  ⟨(some 10), none, .call false n_ingotref12_floor [(.t 9), (.c (.int .i64 4))]⟩,
  ⟨(some 11), none, .bin .add (.t 8) (.t 10)⟩,
  ⟨(some 12), none, .mv (.t 3)⟩,
  ⟨(some 13), none, .call false n_ingotref12_floor [(.t 12), (.c (.int .i64 100))]⟩,
  ⟨(some 14), none, .bin .sub (.t 11) (.t 13)⟩,
  ⟨(some 15), none, .mv (.t 3)⟩,
  ⟨(some 16), none, .call false n_ingotref12_floor [(.t 15), (.c (.int .i64 400))]⟩,
  ⟨(some 17), none, .bin .add (.t 14) (.t 16)⟩,
  ⟨(some 18), none, .bin .sub (.t 17) (.c (.int .i64 477))⟩,
  ⟨(some 2), none, .asg (.t 18)⟩]
def r_ingotref12_first_2 : ICode := .region r_ingotref12_first_2_o [] [2]
@[go_sem] theorem r_ingotref12_first_2_u {X : Kx} {K : List Kf} {s : St} : go X (.c r_ingotref12_first_2 :: K) s = goR X r_ingotref12_first_2_o [2] K s := go_region _ _
def c_ingotref12_first : ICode := (.seq r_ingotref12_first_0 (.seq r_ingotref12_first_1 (.seq r_ingotref12_first_2 .ret)))
def i_ingotref12_first : IFunc := ⟨1, [.t 2], c_ingotref12_first⟩
def a_ingotref12_first : Advice := ⟨[], [(2, [2]), (1, [0, 3]), (0, [0])], [], []⟩
/-! ingot/ingotref12.leap -/
@[go_sem] def r_ingotref12_leap_0_o : List IOper := [
  ⟨(some 2), none, .asg (.c (.bool false))⟩]
def r_ingotref12_leap_0 : ICode := .region r_ingotref12_leap_0_o [] [0]
@[go_sem] theorem r_ingotref12_leap_0_u {X : Kx} {K : List Kf} {s : St} : go X (.c r_ingotref12_leap_0 :: K) s = goR X r_ingotref12_leap_0_o [0] K s := go_region _ _
@[go_sem] def r_ingotref12_leap_1_o : List IOper := [
  ⟨(some 3), none, .mv (.t 0)⟩,
  ⟨(some 4), none, .bin .rem (.t 3) (.c (.int .i64 4))⟩,
  ⟨(some 5), none, .bin .eql (.t 4) (.c (.int .i64 0))⟩,
  ⟨(some 6), none, .mv (.t 5)⟩,
  ⟨(some 7), some (6, true), .mv (.t 0)⟩,
  ⟨(some 8), some (6, true), .bin .rem (.t 7) (.c (.int .i64 100))⟩,
  ⟨(some 9), some (6, true), .bin .neq (.t 8) (.c (.int .i64 0))⟩,
  ⟨(some 10), some (6, true), .mv (.t 9)⟩,
  ⟨(some 11), some (10, false), .mv (.t 0)⟩,
  ⟨(some 12), some (10, false), .bin .rem (.t 11) (.c (.int .i64 400))⟩,
  ⟨(some 13), some (10, false), .bin .eql (.t 12) (.c (.int .i64 0))⟩,
  ⟨(some 14), some (6, true), .pick (.t 10) (.c (.bool true)) (.t 13)⟩,
  ⟨(some 15), none, .pick (.t 6) (.t 14) (.c (.bool false))⟩,
  ⟨(some 2), none, .asg (.t 15)⟩]
def r_ingotref12_leap_1 : ICode := .region r_ingotref12_leap_1_o [] [2]
@[go_sem] theorem r_ingotref12_leap_1_u {X : Kx} {K : List Kf} {s : St} : go X (.c r_ingotref12_leap_1 :: K) s = goR X r_ingotref12_leap_1_o [2] K s := go_region _ _
def c_ingotref12_leap : ICode := (.seq r_ingotref12_leap_0 (.seq r_ingotref12_leap_1 .ret))
def i_ingotref12_leap : IFunc := ⟨1, [.t 2], c_ingotref12_leap⟩
def a_ingotref12_leap : Advice := ⟨[], [(1, [2]), (0, [0])], [], []⟩
/-! ingot/ingotref12.month -/
@[go_sem] def r_ingotref12_month_0_o : List IOper := [
  ⟨(some 4), none, .asg (.c (.int .i64 0))⟩]
def r_ingotref12_month_0 : ICode := .region r_ingotref12_month_0_o [] [0, 1]
@[go_sem] theorem r_ingotref12_month_0_u {X : Kx} {K : List Kf} {s : St} : go X (.c r_ingotref12_month_0 :: K) s = goR X r_ingotref12_month_0_o [0, 1] K s := go_region _ _
@[go_sem] def r_ingotref12_month_1_o : List IOper := [
  ⟨(some 5), none, .mv (.t 1)⟩]
def r_ingotref12_month_1 : ICode := .region r_ingotref12_month_1_o [] [0, 5]
@[go_sem] theorem r_ingotref12_month_1_u {X : Kx} {K : List Kf} {s : St} : go X (.c r_ingotref12_month_1 :: K) s = goR X r_ingotref12_month_1_o [0, 5] K s := go_region _ _
@[go_sem] def r_ingotref12_month_2_o : List IOper := [
  ⟨(some 7), none, .bin .eql (.t 5) (.c (.int .i64 2))⟩,
  ⟨(some 6), none, .asg (.t 7)⟩]
def r_ingotref12_month_2 : ICode := .region r_ingotref12_month_2_o [] [0, 5, 6]
@[go_sem] theorem r_ingotref12_month_2_u {X : Kx} {K : List Kf} {s : St} : go X (.c r_ingotref12_month_2 :: K) s = goR X r_ingotref12_month_2_o [0, 5, 6] K s := go_region _ _
@[go_sem] def r_ingotref12_month_3_o : List IOper := [
  ⟨(some 8), none, .mv (.t 0)⟩,
  ⟨(some 9), none, .call false n_ingotref12_leap [(.t 8)]⟩]
def r_ingotref12_month_3 : ICode := .region r_ingotref12_month_3_o [] [9]
@[go_sem] theorem r_ingotref12_month_3_u {X : Kx} {K : List Kf} {s : St} : go X (.c r_ingotref12_month_3 :: K) s = goR X r_ingotref12_month_3_o [9] K s := go_region _ _
@[go_sem] def r_ingotref12_month_4_o : List IOper := [
  ⟨(some 4), none, .asg (.c (.int .i64 29))⟩]
def r_ingotref12_month_4 : ICode := .region r_ingotref12_month_4_o [] [4]
@[go_sem] theorem r_ingotref12_month_4_u {X : Kx} {K : List Kf} {s : St} : go X (.c r_ingotref12_month_4 :: K) s = goR X r_ingotref12_month_4_o [4] K s := go_region _ _
@[go_sem] def r_ingotref12_month_5_o : List IOper := [
  ⟨(some 4), none, .asg (.c (.int .i64 28))⟩]
def r_ingotref12_month_5 : ICode := .region r_ingotref12_month_5_o [] [4]
@[go_sem] theorem r_ingotref12_month_5_u {X : Kx} {K : List Kf} {s : St} : go X (.c r_ingotref12_month_5 :: K) s = goR X r_ingotref12_month_5_o [4] K s := go_region _ _
@[go_sem] def r_ingotref12_month_6_o : List IOper := [
  ⟨(some 11), none, .bin .eql (.t 5) (.c (.int .i64 4))⟩,
  ⟨(some 10), none, .asg (.t 11)⟩]
def r_ingotref12_month_6 : ICode := .region r_ingotref12_month_6_o [] [5, 10]
@[go_sem] theorem r_ingotref12_month_6_u {X : Kx} {K : List Kf} {s : St} : go X (.c r_ingotref12_month_6 :: K) s = goR X r_ingotref12_month_6_o [5, 10] K s := go_region _ _
@[go_sem] def r_ingotref12_month_7_o : List IOper := [
  ⟨(some 12), none, .bin .eql (.t 5) (.c (.int .i64 6))⟩,
  ⟨(some 10), none, .asg (.t 12)⟩]
def r_ingotref12_month_7 : ICode := .region r_ingotref12_month_7_o [] [5, 10]
@[go_sem] theorem r_ingotref12_month_7_u {X : Kx} {K : List Kf} {s : St} : go X (.c r_ingotref12_month_7 :: K) s = goR X r_ingotref12_month_7_o [5, 10] K s := go_region _ _
@[go_sem] def r_ingotref12_month_8_o : List IOper := [
  ⟨(some 13), none, .bin .eql (.t 5) (.c (.int .i64 9))⟩,
  ⟨(some 10), none, .asg (.t 13)⟩]
def r_ingotref12_month_8 : ICode := .region r_ingotref12_month_8_o [] [5, 10]
@[go_sem] theorem r_ingotref12_month_8_u {X : Kx} {K : List Kf} {s : St} : go X (.c r_ingotref12_month_8 :: K) s = goR X r_ingotref12_month_8_o [5, 10] K s := go_region _ _
@[go_sem] def r_ingotref12_month_9_o : List IOper := [
  ⟨(some 14), none, .bin .eql (.t 5) (.c (.int .i64 11))⟩,
  ⟨(some 10), none, .asg (.t 14)⟩]
def r_ingotref12_month_9 : ICode := .region r_ingotref12_month_9_o [] [10]
@[go_sem] theorem r_ingotref12_month_9_u {X : Kx} {K : List Kf} {s : St} : go X (.c r_ingotref12_month_9 :: K) s = goR X r_ingotref12_month_9_o [10] K s := go_region _ _
@[go_sem] def r_ingotref12_month_10_o : List IOper := [
  ⟨(some 4), none, .asg (.c (.int .i64 30))⟩]
def r_ingotref12_month_10 : ICode := .region r_ingotref12_month_10_o [] [4]
@[go_sem] theorem r_ingotref12_month_10_u {X : Kx} {K : List Kf} {s : St} : go X (.c r_ingotref12_month_10 :: K) s = goR X r_ingotref12_month_10_o [4] K s := go_region _ _
@[go_sem] def r_ingotref12_month_11_o : List IOper := [
  ⟨(some 4), none, .asg (.c (.int .i64 31))⟩]
def r_ingotref12_month_11 : ICode := .region r_ingotref12_month_11_o [] [4]
@[go_sem] theorem r_ingotref12_month_11_u {X : Kx} {K : List Kf} {s : St} : go X (.c r_ingotref12_month_11 :: K) s = goR X r_ingotref12_month_11_o [4] K s := go_region _ _
def c_ingotref12_month : ICode := (.seq r_ingotref12_month_0 (.seq (.seq r_ingotref12_month_1 (.block 0 (.seq r_ingotref12_month_2 (.cond (.t 6) (.seq (.seq r_ingotref12_month_3 (.cond (.t 9) (.seq r_ingotref12_month_4 .ret) .skip)) (.seq r_ingotref12_month_5 .ret)) (.seq (.seq r_ingotref12_month_6 (.cond (.t 10) .skip (.seq r_ingotref12_month_7 (.cond (.t 10) .skip (.seq r_ingotref12_month_8 (.cond (.t 10) .skip r_ingotref12_month_9)))))) (.cond (.t 10) (.seq r_ingotref12_month_10 .ret) .skip)))))) (.seq r_ingotref12_month_11 .ret)))
def i_ingotref12_month : IFunc := ⟨2, [.t 4], c_ingotref12_month⟩
def a_ingotref12_month : Advice := ⟨[], [(11, [4]), (5, [4]), (4, [4]), (3, [9]), (10, [4]), (9, [10]), (8, [5, 10]), (7, [5, 10]), (6, [5, 10]), (2, [0, 5, 6]), (1, [0, 5]), (0, [0, 1])], [], []⟩
/-! ingot/ingotref12.Days -/
@[go_sem] def r_ingotref12_Days_0_o : List IOper := [
  ⟨(some 6), none, .asg (.c (.int .i64 0))⟩,
  ⟨(some 7), none, .asg (.c (.bool false))⟩]
def r_ingotref12_Days_0 : ICode := .region r_ingotref12_Days_0_o [] [0, 1, 2]
@[go_sem] theorem r_ingotref12_Days_0_u {X : Kx} {K : List Kf} {s : St} : go X (.c r_ingotref12_Days_0 :: K) s = goR X r_ingotref12_Days_0_o [0, 1, 2] K s := go_region _ _
@[go_sem] def r_ingotref12_Days_1_o : List IOper := [
  ⟨(some 10), none, .mv (.t 0)⟩,
  ⟨(some 11), none, .bin .lss (.t 10) (.c (.int .i64 (-9999)))⟩,
  ⟨(some 12), none, .mv (.t 11)⟩,
  ⟨(some 13), some (12, false), .mv (.t 0)⟩,
  ⟨(some 14), some (12, false), .bin .gtr (.t 13) (.c (.int .i64 9999))⟩,
  ⟨(some 15), none, .pick (.t 12) (.c (.bool true)) (.t 14)⟩,
  ⟨(some 16), none, .mv (.t 15)⟩,
  ⟨(some 17), some (16, false), .mv (.t 1)⟩,
  ⟨(some 18), some (16, false), .bin .lss (.t 17) (.c (.int .i64 1))⟩,
  ⟨(some 19), none, .pick (.t 16) (.c (.bool true)) (.t 18)⟩,
  ⟨(some 20), none, .mv (.t 19)⟩,
  ⟨(some 21), some (20, false), .mv (.t 1)⟩,
  ⟨(some 22), some (20, false), .bin .gtr (.t 21) (.c (.int .i64 12))⟩,
  ⟨(some 23), none, .pick (.t 20) (.c (.bool true)) (.t 22)⟩,
  ⟨(some 24), none, .mv (.t 23)⟩,
  ⟨(some 25), some (24, false), .mv (.t 2)⟩,
  ⟨(some 26), some (24, false), .bin .lss (.t 25) (.c (.int .i64 1))⟩,
  ⟨(some 27), none, .pick (.t 24) (.c (.bool true)) (.t 26)⟩,
  ⟨(some 28), none, .mv (.t 27)⟩,
  ⟨(some 29), some (28, false), .mv (.t 2)⟩,
  ⟨(some 30), some (28, false), .mv (.t 0)⟩,
  ⟨(some 31), some (28, false), .mv (.t 1)⟩,
  ⟨(some 32), some (28, false), .call false n_ingotref12_month [(.t 30), (.t 31)]⟩,
  ⟨(some 33), some (28, false), .bin .gtr (.t 29) (.t 32)⟩,
  ⟨(some 34), none, .pick (.t 28) (.c (.bool true)) (.t 33)⟩]
def r_ingotref12_Days_1 : ICode := .region r_ingotref12_Days_1_o [] [0, 1, 2, 34]
@[go_sem] theorem r_ingotref12_Days_1_u {X : Kx} {K : List Kf} {s : St} : go X (.c r_ingotref12_Days_1 :: K) s = goR X r_ingotref12_Days_1_o [0, 1, 2, 34] K s := go_region _ _
@[go_sem] def r_ingotref12_Days_2_o : List IOper := [
  ⟨(some 6), none, .asg (.c (.int .i64 0))⟩,
  ⟨(some 7), none, .asg (.c (.bool false))⟩]
def r_ingotref12_Days_2 : ICode := .region r_ingotref12_Days_2_o [] [6, 7]
@[go_sem] theorem r_ingotref12_Days_2_u {X : Kx} {K : List Kf} {s : St} : go X (.c r_ingotref12_Days_2 :: K) s = goR X r_ingotref12_Days_2_o [6, 7] K s := go_region _ _
@[go_sem] def r_ingotref12_Days_3_o : List IOper := [
  ⟨(some 35), none, .mv (.t 0)⟩,
  ⟨(some 36), none, .call false n_ingotref12_first [(.t 35)]⟩,
  ⟨(some 8), none, .asg (.t 36)⟩]
def r_ingotref12_Days_3 : ICode := .region r_ingotref12_Days_3_o [] [0, 1, 2, 8]
@[go_sem] theorem r_ingotref12_Days_3_u {X : Kx} {K : List Kf} {s : St} : go X (.c r_ingotref12_Days_3 :: K) s = goR X r_ingotref12_Days_3_o [0, 1, 2, 8] K s := go_region _ _
@[go_sem] def r_ingotref12_Days_4_o : List IOper := [
  ⟨(some 9), none, .asg (.c (.int .i64 1))⟩]
def r_ingotref12_Days_4 : ICode := .region r_ingotref12_Days_4_o [] [0, 1, 2, 8, 9]
@[go_sem] theorem r_ingotref12_Days_4_u {X : Kx} {K : List Kf} {s : St} : go X (.c r_ingotref12_Days_4 :: K) s = goR X r_ingotref12_Days_4_o [0, 1, 2, 8, 9] K s := go_region _ _
@[go_sem] def r_ingotref12_Days_5_o : List IOper := [
  ⟨(some 37), none, .mv (.t 9)⟩,
  ⟨(some 38), none, .mv (.t 1)⟩,
  ⟨(some 39), none, .bin .lss (.t 37) (.t 38)⟩]
def r_ingotref12_Days_5 : ICode := .region r_ingotref12_Days_5_o [] [0, 1, 2, 8, 9, 39]
@[go_sem] theorem r_ingotref12_Days_5_u {X : Kx} {K : List Kf} {s : St} : go X (.c r_ingotref12_Days_5 :: K) s = goR X r_ingotref12_Days_5_o [0, 1, 2, 8, 9, 39] K s := go_region _ _
@[go_sem] def r_ingotref12_Days_6_o : List IOper := [
  ⟨(some 42), none, .mv (.t 8)⟩,
  ⟨(some 43), none, .mv (.t 0)⟩,
  ⟨(some 44), none, .mv (.t 9)⟩,
  ⟨(some 45), none, .call false n_ingotref12_month [(.t 43), (.t 44)]⟩,
  ⟨(some 46), none, .bin .add (.t 42) (.t 45)⟩,
  ⟨(some 8), none, .asg (.t 46)⟩]
def r_ingotref12_Days_6 : ICode := .region r_ingotref12_Days_6_o [] [0, 1, 2, 8, 9]
@[go_sem] theorem r_ingotref12_Days_6_u {X : Kx} {K : List Kf} {s : St} : go X (.c r_ingotref12_Days_6 :: K) s = goR X r_ingotref12_Days_6_o [0, 1, 2, 8, 9] K s := go_region _ _
@[go_sem] def r_ingotref12_Days_7_o : List IOper := [
  ⟨(some 40), none, .mv (.t 9)⟩,
  ⟨(some 41), none, .bin .add (.t 40) (.c (.int .i64 1))⟩,
  ⟨(some 9), none, .asg (.t 41)⟩]
def r_ingotref12_Days_7 : ICode := .region r_ingotref12_Days_7_o [] [0, 1, 2, 8, 9]
@[go_sem] theorem r_ingotref12_Days_7_u {X : Kx} {K : List Kf} {s : St} : go X (.c r_ingotref12_Days_7 :: K) s = goR X r_ingotref12_Days_7_o [0, 1, 2, 8, 9] K s := go_region _ _
def b_ingotref12_Days_8 : ICode := (.seq (.seq r_ingotref12_Days_5 (.cond (.t 39) .skip (.exit 0))) (.seq (.block 1 r_ingotref12_Days_6) r_ingotref12_Days_7))
@[go_sem] theorem b_ingotref12_Days_8_u {X : Kx} {K : List Kf} {s : St} : go X (.c b_ingotref12_Days_8 :: K) s = go X (.c (.seq (.seq r_ingotref12_Days_5 (.cond (.t 39) .skip (.exit 0))) (.seq (.block 1 r_ingotref12_Days_6) r_ingotref12_Days_7)) :: K) s := rfl
@[go_sem] def r_ingotref12_Days_9_o : List IOper := [
  ⟨(some 47), none, .mv (.t 8)⟩,
  ⟨(some 48), none, .mv (.t 2)⟩,
  ⟨(some 49), none, .bin .add (.t 47) (.t 48)⟩,
  ⟨(some 50), none, .bin .sub (.t 49) (.c (.int .i64 1))⟩,
  ⟨(some 6), none, .asg (.t 50)⟩,
  ⟨(some 7), none, .asg (.c (.bool true))⟩]
def r_ingotref12_Days_9 : ICode := .region r_ingotref12_Days_9_o [] [6, 7]
@[go_sem] theorem r_ingotref12_Days_9_u {X : Kx} {K : List Kf} {s : St} : go X (.c r_ingotref12_Days_9 :: K) s = goR X r_ingotref12_Days_9_o [6, 7] K s := go_region _ _
def c_ingotref12_Days : ICode := (.seq r_ingotref12_Days_0 (.seq (.seq r_ingotref12_Days_1 (.cond (.t 34) (.seq r_ingotref12_Days_2 .ret) .skip)) (.seq r_ingotref12_Days_3 (.seq (.seq r_ingotref12_Days_4 (.block 0 (.loop b_ingotref12_Days_8))) (.seq r_ingotref12_Days_9 .ret)))))
def i_ingotref12_Days : IFunc := ⟨3, [.t 6, .t 7], c_ingotref12_Days⟩
def a_ingotref12_Days : Advice := ⟨[], [(8, [6, 7]), (6, [0, 1, 2, 8, 9]), (7, [0, 1, 2, 8, 9]), (5, [0, 1, 2, 8, 9, 39]), (4, [0, 1, 2, 8, 9]), (3, [0, 1, 2, 8]), (2, [6, 7]), (1, [0, 1, 2, 34]), (0, [0, 1, 2])], [], []⟩
/-! ingot/ingotlaw12.StampDays -/
@[go_sem] def r_ingotlaw12_StampDays_0_o : List IOper := [
  ⟨(some 8), none, .asg (.c (.bool false))⟩]
def r_ingotlaw12_StampDays_0 : ICode := .region r_ingotlaw12_StampDays_0_o [] [0, 1, 2, 3]
@[go_sem] theorem r_ingotlaw12_StampDays_0_u {X : Kx} {K : List Kf} {s : St} : go X (.c r_ingotlaw12_StampDays_0 :: K) s = goR X r_ingotlaw12_StampDays_0_o [0, 1, 2, 3] K s := go_region _ _
@[go_sem] def r_ingotlaw12_StampDays_1_o : List IOper := [
  ⟨(some 24), none, .call false n_ingotlaw12_known []⟩,
  ⟨(some 25), none, .un .not (.t 24)⟩]
def r_ingotlaw12_StampDays_1 : ICode := .region r_ingotlaw12_StampDays_1_o [] [0, 1, 2, 3, 25]
@[go_sem] theorem r_ingotlaw12_StampDays_1_u {X : Kx} {K : List Kf} {s : St} : go X (.c r_ingotlaw12_StampDays_1 :: K) s = goR X r_ingotlaw12_StampDays_1_o [0, 1, 2, 3, 25] K s := go_region _ _
@[go_sem] def r_ingotlaw12_StampDays_2_o : List IOper := [
  ⟨(some 8), none, .asg (.c (.bool false))⟩]
def r_ingotlaw12_StampDays_2 : ICode := .region r_ingotlaw12_StampDays_2_o [] [8]
@[go_sem] theorem r_ingotlaw12_StampDays_2_u {X : Kx} {K : List Kf} {s : St} : go X (.c r_ingotlaw12_StampDays_2 :: K) s = goR X r_ingotlaw12_StampDays_2_o [8] K s := go_region _ _
@[go_sem] def r_ingotlaw12_StampDays_3_o : List IOper := [
  ⟨(some 27), none, .mv (.t 0)⟩,
  ⟨(some 28), none, .mv (.t 1)⟩,
  ⟨(some 29), none, .mv (.t 2)⟩,
  ⟨(some 30), none, .call false n_stamp_Days [(.t 27), (.t 28), (.t 29)]⟩,
  ⟨(some 26), none, .mv (.t 30)⟩,
  ⟨(some 31), none, .ext (.t 26) 0⟩,
  ⟨(some 32), none, .ext (.t 26) 1⟩,
  ⟨(some 9), none, .asg (.t 31)⟩,
  ⟨(some 10), none, .asg (.t 32)⟩]
def r_ingotlaw12_StampDays_3 : ICode := .region r_ingotlaw12_StampDays_3_o [] [0, 1, 2, 3, 9, 10]
@[go_sem] theorem r_ingotlaw12_StampDays_3_u {X : Kx} {K : List Kf} {s : St} : go X (.c r_ingotlaw12_StampDays_3 :: K) s = goR X r_ingotlaw12_StampDays_3_o [0, 1, 2, 3, 9, 10] K s := go_region _ _
@[go_sem] def r_ingotlaw12_StampDays_4_o : List IOper := [
  ⟨(some 34), none, .mv (.t 0)⟩,
  ⟨(some 35), none, .mv (.t 1)⟩,
  ⟨(some 36), none, .mv (.t 2)⟩,
  ⟨(some 37), none, .call false n_ingotref12_Days [(.t 34), (.t 35), (.t 36)]⟩,
  ⟨(some 33), none, .mv (.t 37)⟩,
  ⟨(some 38), none, .ext (.t 33) 0⟩,
  ⟨(some 39), none, .ext (.t 33) 1⟩,
  ⟨(some 11), none, .asg (.t 38)⟩,
  ⟨(some 12), none, .asg (.t 39)⟩]
def r_ingotlaw12_StampDays_4 : ICode := .region r_ingotlaw12_StampDays_4_o [] [0, 1, 2, 3, 9, 10, 11, 12]
@[go_sem] theorem r_ingotlaw12_StampDays_4_u {X : Kx} {K : List Kf} {s : St} : go X (.c r_ingotlaw12_StampDays_4 :: K) s = goR X r_ingotlaw12_StampDays_4_o [0, 1, 2, 3, 9, 10, 11, 12] K s := go_region _ _
@[go_sem] def r_ingotlaw12_StampDays_5_o : List IOper := [
  ⟨(some 40), none, .mv (.t 9)⟩,
  ⟨(some 41), none, .mv (.t 11)⟩,
  ⟨(some 42), none, .bin .neq (.t 40) (.t 41)⟩,
  ⟨(some 43), none, .mv (.t 42)⟩,
  ⟨(some 44), some (43, false), .mv (.t 10)⟩,
  ⟨(some 45), some (43, false), .mv (.t 12)⟩,
  ⟨(some 46), some (43, false), .eqn true .bool (.t 44) (.t 45)⟩,
  ⟨(some 47), none, .pick (.t 43) (.c (.bool true)) (.t 46)⟩]
def r_ingotlaw12_StampDays_5 : ICode := .region r_ingotlaw12_StampDays_5_o [] [0, 1, 2, 3, 9, 10, 47]
@[go_sem] theorem r_ingotlaw12_StampDays_5_u {X : Kx} {K : List Kf} {s : St} : go X (.c r_ingotlaw12_StampDays_5 :: K) s = goR X r_ingotlaw12_StampDays_5_o [0, 1, 2, 3, 9, 10, 47] K s := go_region _ _
@[go_sem] def r_ingotlaw12_StampDays_6_o : List IOper := [
  ⟨(some 8), none, .asg (.c (.bool false))⟩]
def r_ingotlaw12_StampDays_6 : ICode := .region r_ingotlaw12_StampDays_6_o [] [8]
@[go_sem] theorem r_ingotlaw12_StampDays_6_u {X : Kx} {K : List Kf} {s : St} : go X (.c r_ingotlaw12_StampDays_6 :: K) s = goR X r_ingotlaw12_StampDays_6_o [8] K s := go_region _ _
@[go_sem] def r_ingotlaw12_StampDays_7_o : List IOper := [
  ⟨(some 48), none, .mv (.t 10)⟩]
def r_ingotlaw12_StampDays_7 : ICode := .region r_ingotlaw12_StampDays_7_o [] [0, 1, 2, 3, 9, 48]
@[go_sem] theorem r_ingotlaw12_StampDays_7_u {X : Kx} {K : List Kf} {s : St} : go X (.c r_ingotlaw12_StampDays_7 :: K) s = goR X r_ingotlaw12_StampDays_7_o [0, 1, 2, 3, 9, 48] K s := go_region _ _
@[go_sem] def r_ingotlaw12_StampDays_8_o : List IOper := [
  ⟨(some 50), none, .mv (.t 9)⟩,
  ⟨(some 51), none, .call false n_stamp_Date [(.t 50)]⟩,
  ⟨(some 49), none, .mv (.t 51)⟩,
  ⟨(some 52), none, .ext (.t 49) 0⟩,
  ⟨(some 53), none, .ext (.t 49) 1⟩,
  ⟨(some 54), none, .ext (.t 49) 2⟩,
  ⟨(some 13), none, .asg (.t 52)⟩,
  ⟨(some 14), none, .asg (.t 53)⟩,
  ⟨(some 15), none, .asg (.t 54)⟩]
def r_ingotlaw12_StampDays_8 : ICode := .region r_ingotlaw12_StampDays_8_o [] [0, 1, 2, 3, 13, 14, 15]
@[go_sem] theorem r_ingotlaw12_StampDays_8_u {X : Kx} {K : List Kf} {s : St} : go X (.c r_ingotlaw12_StampDays_8 :: K) s = goR X r_ingotlaw12_StampDays_8_o [0, 1, 2, 3, 13, 14, 15] K s := go_region _ _
@[go_sem] def r_ingotlaw12_StampDays_9_o : List IOper := [
  ⟨(some 55), none, .mv (.t 13)⟩,
  ⟨(some 56), none, .mv (.t 0)⟩,
  ⟨(some 57), none, .bin .neq (.t 55) (.t 56)⟩,
  ⟨(some 58), none, .mv (.t 57)⟩,
  ⟨(some 59), some (58, false), .mv (.t 14)⟩,
  ⟨(some 60), some (58, false), .mv (.t 1)⟩,
  ⟨(some 61), some (58, false), .bin .neq (.t 59) (.t 60)⟩,
  ⟨(some 62), none, .pick (.t 58) (.c (.bool true)) (.t 61)⟩,
  ⟨(some 63), none, .mv (.t 62)⟩,
  ⟨(some 64), some (63, false), .mv (.t 15)⟩,
  ⟨(some 65), some (63, false), .mv (.t 2)⟩,
  ⟨(some 66), some (63, false), .bin .neq (.t 64) (.t 65)⟩,
  ⟨(some 67), none, .pick (.t 63) (.c (.bool true)) (.t 66)⟩]
def r_ingotlaw12_StampDays_9 : ICode := .region r_ingotlaw12_StampDays_9_o [] [3, 67]
@[go_sem] theorem r_ingotlaw12_StampDays_9_u {X : Kx} {K : List Kf} {s : St} : go X (.c r_ingotlaw12_StampDays_9 :: K) s = goR X r_ingotlaw12_StampDays_9_o [3, 67] K s := go_region _ _
@[go_sem] def r_ingotlaw12_StampDays_10_o : List IOper := [
  ⟨(some 8), none, .asg (.c (.bool false))⟩]
def r_ingotlaw12_StampDays_10 : ICode := .region r_ingotlaw12_StampDays_10_o [] [8]
@[go_sem] theorem r_ingotlaw12_StampDays_10_u {X : Kx} {K : List Kf} {s : St} : go X (.c r_ingotlaw12_StampDays_10 :: K) s = goR X r_ingotlaw12_StampDays_10_o [8] K s := go_region _ _
@[go_sem] def r_ingotlaw12_StampDays_11_o : List IOper := [
  ⟨(some 68), none, .mv (.t 3)⟩,
  ⟨(some 69), none, .call false n_ingotref12_Known [(.t 68)]⟩,
  ⟨(some 70), none, .un .not (.t 69)⟩]
def r_ingotlaw12_StampDays_11 : ICode := .region r_ingotlaw12_StampDays_11_o [] [3, 70]
@[go_sem] theorem r_ingotlaw12_StampDays_11_u {X : Kx} {K : List Kf} {s : St} : go X (.c r_ingotlaw12_StampDays_11 :: K) s = goR X r_ingotlaw12_StampDays_11_o [3, 70] K s := go_region _ _
@[go_sem] def r_ingotlaw12_StampDays_12_o : List IOper := [
  ⟨(some 8), none, .asg (.c (.bool true))⟩]
def r_ingotlaw12_StampDays_12 : ICode := .region r_ingotlaw12_StampDays_12_o [] [8]
@[go_sem] theorem r_ingotlaw12_StampDays_12_u {X : Kx} {K : List Kf} {s : St} : go X (.c r_ingotlaw12_StampDays_12 :: K) s = goR X r_ingotlaw12_StampDays_12_o [8] K s := go_region _ _
@[go_sem] def r_ingotlaw12_StampDays_13_o : List IOper := [
  ⟨(some 72), none, .mv (.t 3)⟩,
  ⟨(some 73), none, .call false n_stamp_Date [(.t 72)]⟩,
  ⟨(some 71), none, .mv (.t 73)⟩,
  ⟨(some 74), none, .ext (.t 71) 0⟩,
  ⟨(some 75), none, .ext (.t 71) 1⟩,
  ⟨(some 76), none, .ext (.t 71) 2⟩,
  ⟨(some 16), none, .asg (.t 74)⟩,
  ⟨(some 17), none, .asg (.t 75)⟩,
  ⟨(some 18), none, .asg (.t 76)⟩]
def r_ingotlaw12_StampDays_13 : ICode := .region r_ingotlaw12_StampDays_13_o [] [3, 16, 17, 18]
@[go_sem] theorem r_ingotlaw12_StampDays_13_u {X : Kx} {K : List Kf} {s : St} : go X (.c r_ingotlaw12_StampDays_13 :: K) s = goR X r_ingotlaw12_StampDays_13_o [3, 16, 17, 18] K s := go_region _ _
@[go_sem] def r_ingotlaw12_StampDays_14_o : List IOper := [
  ⟨(some 78), none, .mv (.t 3)⟩,
  ⟨(some 79), none, .call false n_ingotref12_Date [(.t 78)]⟩,
  ⟨(some 77), none, .mv (.t 79)⟩,
  ⟨(some 80), none, .ext (.t 77) 0⟩,
  ⟨(some 81), none, .ext (.t 77) 1⟩,
  ⟨(some 82), none, .ext (.t 77) 2⟩,
  ⟨(some 19), none, .asg (.t 80)⟩,
  ⟨(some 20), none, .asg (.t 81)⟩,
  ⟨(some 21), none, .asg (.t 82)⟩]
def r_ingotlaw12_StampDays_14 : ICode := .region r_ingotlaw12_StampDays_14_o [] [3, 16, 17, 18, 19, 20, 21]
@[go_sem] theorem r_ingotlaw12_StampDays_14_u {X : Kx} {K : List Kf} {s : St} : go X (.c r_ingotlaw12_StampDays_14 :: K) s = goR X r_ingotlaw12_StampDays_14_o [3, 16, 17, 18, 19, 20, 21] K s := go_region _ _
@[go_sem] def r_ingotlaw12_StampDays_15_o : List IOper := [
  ⟨(some 84), none, .mv (.t 16)⟩,
  ⟨(some 85), none, .mv (.t 17)⟩,
  ⟨(some 86), none, .mv (.t 18)⟩,
  ⟨(some 87), none, .call false n_stamp_Days [(.t 84), (.t 85), (.t 86)]⟩,
  ⟨(some 83), none, .mv (.t 87)⟩,
  ⟨(some 88), none, .ext (.t 83) 0⟩,
  ⟨(some 89), none, .ext (.t 83) 1⟩,
  ⟨(some 22), none, .asg (.t 88)⟩,
  ⟨(some 23), none, .asg (.t 89)⟩]
def r_ingotlaw12_StampDays_15 : ICode := .region r_ingotlaw12_StampDays_15_o [] [3, 16, 17, 18, 19, 20, 21, 22, 23]
@[go_sem] theorem r_ingotlaw12_StampDays_15_u {X : Kx} {K : List Kf} {s : St} : go X (.c r_ingotlaw12_StampDays_15 :: K) s = goR X r_ingotlaw12_StampDays_15_o [3, 16, 17, 18, 19, 20, 21, 22, 23] K s := go_region _ _
@[go_sem] def r_ingotlaw12_StampDays_16_o : List IOper := [
  ⟨(some 90), none, .mv (.t 16)⟩,
  ⟨(some 91), none, .mv (.t 19)⟩,
  ⟨(some 92), none, .bin .eql (.t 90) (.t 91)⟩,
  ⟨(some 93), none, .mv (.t 92)⟩,
  ⟨(some 94), some (93, true), .mv (.t 17)⟩,
  ⟨(some 95), some (93, true), .mv (.t 20)⟩,
  ⟨(some 96), some (93, true), .bin .eql (.t 94) (.t 95)⟩,
  ⟨(some 97), none, .pick (.t 93) (.t 96) (.c (.bool false))⟩,
  ⟨(some 98), none, .mv (.t 97)⟩,
  ⟨(some 99), some (98, true), .mv (.t 18)⟩,
  ⟨(some 100), some (98, true), .mv (.t 21)⟩,
  ⟨(some 101), some (98, true), .bin .eql (.t 99) (.t 100)⟩,
  ⟨(some 102), none, .pick (.t 98) (.t 101) (.c (.bool false))⟩,
  ⟨(some 103), none, .mv (.t 102)⟩,
  ⟨(some 104), some (103, true), .mv (.t 23)⟩,
  ⟨(some 105), none, .pick (.t 103) (.t 104) (.c (.bool false))⟩,
  ⟨(some 106), none, .mv (.t 105)⟩,
  ⟨(some 107), some (106, true), .mv (.t 22)⟩,
  ⟨(some 108), some (106, true), .mv (.t 3)⟩,
  ⟨(some 109), some (106, true), .bin .eql (.t 107) (.t 108)⟩,
  ⟨(some 110), none, .pick (.t 106) (.t 109) (.c (.bool false))⟩,
  ⟨(some 8), none, .asg (.t 110)⟩]
def r_ingotlaw12_StampDays_16 : ICode := .region r_ingotlaw12_StampDays_16_o [] [8]
@[go_sem] theorem r_ingotlaw12_StampDays_16_u {X : Kx} {K : List Kf} {s : St} : go X (.c r_ingotlaw12_StampDays_16 :: K) s = goR X r_ingotlaw12_StampDays_16_o [8] K s := go_region _ _
def c_ingotlaw12_StampDays : ICode := (.seq r_ingotlaw12_StampDays_0 (.seq (.seq r_ingotlaw12_StampDays_1 (.cond (.t 25) (.seq r_ingotlaw12_StampDays_2 .ret) .skip)) (.seq r_ingotlaw12_StampDays_3 (.seq r_ingotlaw12_StampDays_4 (.seq (.seq r_ingotlaw12_StampDays_5 (.cond (.t 47) (.seq r_ingotlaw12_StampDays_6 .ret) .skip)) (.seq (.seq r_ingotlaw12_StampDays_7 (.cond (.t 48) (.seq r_ingotlaw12_StampDays_8 (.seq r_ingotlaw12_StampDays_9 (.cond (.t 67) (.seq r_ingotlaw12_StampDays_10 .ret) .skip))) .skip)) (.seq (.seq r_ingotlaw12_StampDays_11 (.cond (.t 70) (.seq r_ingotlaw12_StampDays_12 .ret) .skip)) (.seq r_ingotlaw12_StampDays_13 (.seq r_ingotlaw12_StampDays_14 (.seq r_ingotlaw12_StampDays_15 (.seq r_ingotlaw12_StampDays_16 .ret)))))))))))
def i_ingotlaw12_StampDays : IFunc := ⟨4, [.t 8], c_ingotlaw12_StampDays⟩
def a_ingotlaw12_StampDays : Advice := ⟨[], [(16, [8]), (15, [3, 16, 17, 18, 19, 20, 21, 22, 23]), (14, [3, 16, 17, 18, 19, 20, 21]), (13, [3, 16, 17, 18]), (12, [8]), (11, [3, 70]), (10, [8]), (9, [3, 67]), (8, [0, 1, 2, 3, 13, 14, 15]), (7, [0, 1, 2, 3, 9, 48]), (6, [8]), (5, [0, 1, 2, 3, 9, 10, 47]), (4, [0, 1, 2, 3, 9, 10, 11, 12]), (3, [0, 1, 2, 3, 9, 10]), (2, [8]), (1, [0, 1, 2, 3, 25]), (0, [0, 1, 2, 3])], [], []⟩
/-! ingot/ingotref12.Nano -/
@[go_sem] def r_ingotref12_Nano_0_o : List IOper := [
  ⟨(some 2), none, .asg (.c (.int .u64 0))⟩]
def r_ingotref12_Nano_0 : ICode := .region r_ingotref12_Nano_0_o [] [0]
@[go_sem] theorem r_ingotref12_Nano_0_u {X : Kx} {K : List Kf} {s : St} : go X (.c r_ingotref12_Nano_0 :: K) s = goR X r_ingotref12_Nano_0_o [0] K s := go_region _ _
@[go_sem] def r_ingotref12_Nano_1_o : List IOper := [
  ⟨(some 5), none, .mv (.t 0)⟩,
  ⟨(some 6), none, .bin .eql (.t 5) (.c (.int .i64 0))⟩]
def r_ingotref12_Nano_1 : ICode := .region r_ingotref12_Nano_1_o [] [0, 6]
@[go_sem] theorem r_ingotref12_Nano_1_u {X : Kx} {K : List Kf} {s : St} : go X (.c r_ingotref12_Nano_1 :: K) s = goR X r_ingotref12_Nano_1_o [0, 6] K s := go_region _ _
@[go_sem] def r_ingotref12_Nano_2_o : List IOper := [
  ⟨(some 2), none, .asg (.c (.int .u64 0))⟩]
def r_ingotref12_Nano_2 : ICode := .region r_ingotref12_Nano_2_o [] [2]
@[go_sem] theorem r_ingotref12_Nano_2_u {X : Kx} {K : List Kf} {s : St} : go X (.c r_ingotref12_Nano_2 :: K) s = goR X r_ingotref12_Nano_2_o [2] K s := go_region _ _
@[go_sem] def r_ingotref12_Nano_3_o : List IOper := [
  ⟨(some 3), none, .asg (.c (.int .i64 0))⟩]
def r_ingotref12_Nano_3 : ICode := .region r_ingotref12_Nano_3_o [] [0, 3]
@[go_sem] theorem r_ingotref12_Nano_3_u {X : Kx} {K : List Kf} {s : St} : go X (.c r_ingotref12_Nano_3 :: K) s = goR X r_ingotref12_Nano_3_o [0, 3] K s := go_region _ _
@[go_sem] def r_ingotref12_Nano_4_o : List IOper := [
  ⟨(some 7), none, .mv (.t 0)⟩,
  ⟨(some 4), none, .asg (.t 7)⟩]
def r_ingotref12_Nano_4 : ICode := .region r_ingotref12_Nano_4_o [] [0, 3, 4]
@[go_sem] theorem r_ingotref12_Nano_4_u {X : Kx} {K : List Kf} {s : St} : go X (.c r_ingotref12_Nano_4 :: K) s = goR X r_ingotref12_Nano_4_o [0, 3, 4] K s := go_region _ _
@[go_sem] def r_ingotref12_Nano_5_o : List IOper := [
  ⟨(some 8), none, .mv (.t 3)⟩,
  ⟨(some 9), none, .bin .lss (.t 8) (.c (.int .i64 8))⟩,
  ⟨(some 10), none, .mv (.t 9)⟩,
  ⟨(some 11), some (10, true), .mv (.t 4)⟩,
  ⟨(some 12), some (10, true), .bin .rem (.t 11) (.c (.int .i64 10))⟩,
  ⟨(some 13), some (10, true), .bin .eql (.t 12) (.c (.int .i64 0))⟩,
  ⟨(some 14), none, .pick (.t 10) (.t 13) (.c (.bool false))⟩]
def r_ingotref12_Nano_5 : ICode := .region r_ingotref12_Nano_5_o [] [0, 3, 4, 14]
@[go_sem] theorem r_ingotref12_Nano_5_u {X : Kx} {K : List Kf} {s : St} : go X (.c r_ingotref12_Nano_5 :: K) s = goR X r_ingotref12_Nano_5_o [0, 3, 4, 14] K s := go_region _ _
@[go_sem] def r_ingotref12_Nano_6_o : List IOper := [
  ⟨(some 15), none, .mv (.t 4)⟩,
  ⟨(some 16), none, .bin .quo (.t 15) (.c (.int .i64 10))⟩,
  ⟨(some 4), none, .asg (.t 16)⟩]
def r_ingotref12_Nano_6 : ICode := .region r_ingotref12_Nano_6_o [] [0, 3, 4]
@[go_sem] theorem r_ingotref12_Nano_6_u {X : Kx} {K : List Kf} {s : St} : go X (.c r_ingotref12_Nano_6 :: K) s = goR X r_ingotref12_Nano_6_o [0, 3, 4] K s := go_region _ _
@[go_sem] def r_ingotref12_Nano_7_o : List IOper := [
  ⟨(some 17), none, .mv (.t 3)⟩,
  ⟨(some 18), none, .bin .add (.t 17) (.c (.int .i64 1))⟩,
  ⟨(some 3), none, .asg (.t 18)⟩]
def r_ingotref12_Nano_7 : ICode := .region r_ingotref12_Nano_7_o [] [0, 3, 4]
@[go_sem] theorem r_ingotref12_Nano_7_u {X : Kx} {K : List Kf} {s : St} : go X (.c r_ingotref12_Nano_7 :: K) s = goR X r_ingotref12_Nano_7_o [0, 3, 4] K s := go_region _ _
def b_ingotref12_Nano_8 : ICode := (.seq (.seq r_ingotref12_Nano_5 (.cond (.t 14) .skip (.exit 0))) (.block 1 (.seq r_ingotref12_Nano_6 r_ingotref12_Nano_7)))
@[go_sem] theorem b_ingotref12_Nano_8_u {X : Kx} {K : List Kf} {s : St} : go X (.c b_ingotref12_Nano_8 :: K) s = go X (.c (.seq (.seq r_ingotref12_Nano_5 (.cond (.t 14) .skip (.exit 0))) (.block 1 (.seq r_ingotref12_Nano_6 r_ingotref12_Nano_7))) :: K) s := rfl
@[go_sem] def r_ingotref12_Nano_9_o : List IOper := [
  ⟨(some 19), none, .mv (.t 3)⟩,
  ⟨(some 20), none, .bin .lss (.t 19) (.c (.int .i64 2))⟩]
def r_ingotref12_Nano_9 : ICode := .region r_ingotref12_Nano_9_o [] [0, 3, 4, 20]
@[go_sem] theorem r_ingotref12_Nano_9_u {X : Kx} {K : List Kf} {s : St} : go X (.c r_ingotref12_Nano_9 :: K) s = goR X r_ingotref12_Nano_9_o [0, 3, 4, 20] K s := go_region _ _
@[go_sem] def r_ingotref12_Nano_10_o : List IOper := [
  ⟨(some 21), none, .mv (.t 0)⟩,
  ⟨(some 22), none, .cvInt .u64 (.t 21)⟩,
  ⟨(some 23), none, .bin .shl (.t 22) (.c (.int .u64 3))⟩,
  ⟨(some 2), none, .asg (.t 23)⟩]
def r_ingotref12_Nano_10 : ICode := .region r_ingotref12_Nano_10_o [] [2]
@[go_sem] theorem r_ingotref12_Nano_10_u {X : Kx} {K : List Kf} {s : St} : go X (.c r_ingotref12_Nano_10 :: K) s = goR X r_ingotref12_Nano_10_o [2] K s := go_region _ _
@[go_sem] def r_ingotref12_Nano_11_o : List IOper := [
  ⟨(some 24), none, .mv (.t 4)⟩,
  ⟨(some 25), none, .cvInt .u64 (.t 24)⟩,
  ⟨(some 26), none, .bin .shl (.t 25) (.c (.int .u64 3))⟩,
  ⟨(some 27), none, .mv (.t 3)⟩,
  ⟨(some 28), none, .bin .sub (.t 27) (.c (.int .i64 1))⟩,
  ⟨(some 29), none, .cvInt .u64 (.t 28)⟩,
  ⟨(some 30), none, .bin .or (.t 26) (.t 29)⟩,
  ⟨(some 2), none, .asg (.t 30)⟩]
def r_ingotref12_Nano_11 : ICode := .region r_ingotref12_Nano_11_o [] [2]
@[go_sem] theorem r_ingotref12_Nano_11_u {X : Kx} {K : List Kf} {s : St} : go X (.c r_ingotref12_Nano_11 :: K) s = goR X r_ingotref12_Nano_11_o [2] K s := go_region _ _
def c_ingotref12_Nano : ICode := (.seq r_ingotref12_Nano_0 (.seq (.seq r_ingotref12_Nano_1 (.cond (.t 6) (.seq r_ingotref12_Nano_2 .ret) .skip)) (.seq r_ingotref12_Nano_3 (.seq r_ingotref12_Nano_4 (.seq (.block 0 (.loop b_ingotref12_Nano_8)) (.seq (.seq r_ingotref12_Nano_9 (.cond (.t 20) (.seq r_ingotref12_Nano_10 .ret) .skip)) (.seq r_ingotref12_Nano_11 .ret)))))))
def i_ingotref12_Nano : IFunc := ⟨1, [.t 2], c_ingotref12_Nano⟩
def a_ingotref12_Nano : Advice := ⟨[], [(10, [2]), (9, [2]), (8, [0, 3, 4, 20]), (7, [0, 3, 4]), (6, [0, 3, 4]), (5, [0, 3, 4, 14]), (4, [0, 3, 4]), (3, [0, 3]), (2, [2]), (1, [0, 6]), (0, [0])], [], []⟩
/-! ingot/ingotref12.Check -/
@[go_sem] def r_ingotref12_Check_0_o : List IOper := [
  ⟨(some 4), none, .asg (.c (.bool false))⟩]
def r_ingotref12_Check_0 : ICode := .region r_ingotref12_Check_0_o [] [0, 1]
@[go_sem] theorem r_ingotref12_Check_0_u {X : Kx} {K : List Kf} {s : St} : go X (.c r_ingotref12_Check_0 :: K) s = goR X r_ingotref12_Check_0_o [0, 1] K s := go_region _ _
@[go_sem] def r_ingotref12_Check_1_o : List IOper := [
  ⟨(some 5), none, .mv (.t 0)⟩,
  ⟨(some 6), none, .bin .geq (.t 5) (.c (.int .i64 (-1099511627776)))⟩,
  ⟨(some 7), none, .mv (.t 6)⟩,
  ⟨(some 8), some (7, true), .mv (.t 0)⟩,
  ⟨(some 9), some (7, true), .bin .leq (.t 8) (.c (.int .i64 1099511627776))⟩,
  ⟨(some 10), none, .pick (.t 7) (.t 9) (.c (.bool false))⟩,
  ⟨(some 11), none, .mv (.t 10)⟩,
  ⟨(some 12), some (11, true), .mv (.t 1)⟩,
  ⟨(some 13), some (11, true), .bin .geq (.t 12) (.c (.int .i64 0))⟩,
  ⟨(some 14), none, .pick (.t 11) (.t 13) (.c (.bool false))⟩,
  ⟨(some 15), none, .mv (.t 14)⟩,
  ⟨(some 16), some (15, true), .mv (.t 1)⟩,
  ⟨(some 17), some (15, true), .bin .lss (.t 16) (.c (.int .i64 1000000000))⟩,
  ⟨(some 18), none, .pick (.t 15) (.t 17) (.c (.bool false))⟩,
  ⟨(some 4), none, .asg (.t 18)⟩]
def r_ingotref12_Check_1 : ICode := .region r_ingotref12_Check_1_o [] [4]
@[go_sem] theorem r_ingotref12_Check_1_u {X : Kx} {K : List Kf} {s : St} : go X (.c r_ingotref12_Check_1 :: K) s = goR X r_ingotref12_Check_1_o [4] K s := go_region _ _
def c_ingotref12_Check : ICode := (.seq r_ingotref12_Check_0 (.seq r_ingotref12_Check_1 .ret))
def i_ingotref12_Check : IFunc := ⟨2, [.t 4], c_ingotref12_Check⟩
def a_ingotref12_Check : Advice := ⟨[], [(1, [4]), (0, [0, 1])], [], []⟩
/-! ingot/ingotref12.Back -/
@[go_sem] def r_ingotref12_Back_0_o : List IOper := [
  ⟨(some 2), none, .asg (.c (.int .i64 0))⟩,
  ⟨(some 3), none, .asg (.c (.int .i64 0))⟩]
def r_ingotref12_Back_0 : ICode := .region r_ingotref12_Back_0_o [] [0]
@[go_sem] theorem r_ingotref12_Back_0_u {X : Kx} {K : List Kf} {s : St} : go X (.c r_ingotref12_Back_0 :: K) s = goR X r_ingotref12_Back_0_o [0] K s := go_region _ _
@[go_sem] def r_ingotref12_Back_1_o : List IOper := [
  ⟨(some 7), none, .mv (.t 0)⟩,
  ⟨(some 8), none, .bin .and (.t 7) (.c (.int .u64 7))⟩,
  ⟨(some 9), none, .cvInt .i64 (.t 8)⟩,
  ⟨(some 4), none, .asg (.t 9)⟩]
def r_ingotref12_Back_1 : ICode := .region r_ingotref12_Back_1_o [] [0, 4]
@[go_sem] theorem r_ingotref12_Back_1_u {X : Kx} {K : List Kf} {s : St} : go X (.c r_ingotref12_Back_1 :: K) s = goR X r_ingotref12_Back_1_o [0, 4] K s := go_region _ _
@[go_sem] def r_ingotref12_Back_2_o : List IOper := [
  ⟨(some 10), none, .mv (.t 0)⟩,
  ⟨(some 11), none, .bin .shr (.t 10) (.c (.int .u64 3))⟩,
  ⟨(some 5), none, .asg (.t 11)⟩]
def r_ingotref12_Back_2 : ICode := .region r_ingotref12_Back_2_o [] [4, 5]
@[go_sem] theorem r_ingotref12_Back_2_u {X : Kx} {K : List Kf} {s : St} : go X (.c r_ingotref12_Back_2 :: K) s = goR X r_ingotref12_Back_2_o [4, 5] K s := go_region _ _
@[go_sem] def r_ingotref12_Back_3_o : List IOper := [
  ⟨(some 12), none, .mv (.t 5)⟩,
  ⟨(some 13), none, .bin .geq (.t 12) (.c (.int .u64 1000000000))⟩]
def r_ingotref12_Back_3 : ICode := .region r_ingotref12_Back_3_o [] [4, 5, 13]
@[go_sem] theorem r_ingotref12_Back_3_u {X : Kx} {K : List Kf} {s : St} : go X (.c r_ingotref12_Back_3 :: K) s = goR X r_ingotref12_Back_3_o [4, 5, 13] K s := go_region _ _
@[go_sem] def r_ingotref12_Back_4_o : List IOper := [
  ⟨(some 2), none, .asg (.c (.int .i64 0))⟩,
  ⟨(some 3), none, .asg (.c (.int .i64 2))⟩]
def r_ingotref12_Back_4 : ICode := .region r_ingotref12_Back_4_o [] [2, 3]
@[go_sem] theorem r_ingotref12_Back_4_u {X : Kx} {K : List Kf} {s : St} : go X (.c r_ingotref12_Back_4 :: K) s = goR X r_ingotref12_Back_4_o [2, 3] K s := go_region _ _
@[go_sem] def r_ingotref12_Back_5_o : List IOper := [
  ⟨(some 14), none, .mv (.t 4)⟩,
  ⟨(some 15), none, .bin .gtr (.t 14) (.c (.int .i64 0))⟩]
def r_ingotref12_Back_5 : ICode := .region r_ingotref12_Back_5_o [] [4, 5, 15]
@[go_sem] theorem r_ingotref12_Back_5_u {X : Kx} {K : List Kf} {s : St} : go X (.c r_ingotref12_Back_5 :: K) s = goR X r_ingotref12_Back_5_o [4, 5, 15] K s := go_region _ _
@[go_sem] def r_ingotref12_Back_6_o : List IOper := [
  ⟨(some 6), none, .asg (.c (.int .i64 0))⟩]
def r_ingotref12_Back_6 : ICode := .region r_ingotref12_Back_6_o [] [4, 5, 6]
@[go_sem] theorem r_ingotref12_Back_6_u {X : Kx} {K : List Kf} {s : St} : go X (.c r_ingotref12_Back_6 :: K) s = goR X r_ingotref12_Back_6_o [4, 5, 6] K s := go_region _ _
@[go_sem] def r_ingotref12_Back_7_o : List IOper := [
  ⟨(some 16), none, .mv (.t 6)⟩,
  ⟨(some 17), none, .mv (.t 4)⟩,
  ⟨(some 18), none, .bin .leq (.t 16) (.t 17)⟩]
def r_ingotref12_Back_7 : ICode := .region r_ingotref12_Back_7_o [] [4, 5, 6, 18]
@[go_sem] theorem r_ingotref12_Back_7_u {X : Kx} {K : List Kf} {s : St} : go X (.c r_ingotref12_Back_7 :: K) s = goR X r_ingotref12_Back_7_o [4, 5, 6, 18] K s := go_region _ _
@[go_sem] def r_ingotref12_Back_8_o : List IOper := [
  ⟨(some 21), none, .mv (.t 5)⟩,
  ⟨(some 22), none, .bin .mul (.t 21) (.c (.int .u64 10))⟩,
  ⟨(some 5), none, .asg (.t 22)⟩]
def r_ingotref12_Back_8 : ICode := .region r_ingotref12_Back_8_o [] [4, 5, 6]
@[go_sem] theorem r_ingotref12_Back_8_u {X : Kx} {K : List Kf} {s : St} : go X (.c r_ingotref12_Back_8 :: K) s = goR X r_ingotref12_Back_8_o [4, 5, 6] K s := go_region _ _
@[go_sem] def r_ingotref12_Back_9_o : List IOper := [
  ⟨(some 23), none, .mv (.t 5)⟩,
  ⟨(some 24), none, .bin .geq (.t 23) (.c (.int .u64 1000000000))⟩]
def r_ingotref12_Back_9 : ICode := .region r_ingotref12_Back_9_o [] [4, 5, 6, 24]
@[go_sem] theorem r_ingotref12_Back_9_u {X : Kx} {K : List Kf} {s : St} : go X (.c r_ingotref12_Back_9 :: K) s = goR X r_ingotref12_Back_9_o [4, 5, 6, 24] K s := go_region _ _
@[go_sem] def r_ingotref12_Back_10_o : List IOper := [
  ⟨(some 2), none, .asg (.c (.int .i64 0))⟩,
  ⟨(some 3), none, .asg (.c (.int .i64 2))⟩]
def r_ingotref12_Back_10 : ICode := .region r_ingotref12_Back_10_o [] [2, 3]
@[go_sem] theorem r_ingotref12_Back_10_u {X : Kx} {K : List Kf} {s : St} : go X (.c r_ingotref12_Back_10 :: K) s = goR X r_ingotref12_Back_10_o [2, 3] K s := go_region _ _
@[go_sem] def r_ingotref12_Back_11_o : List IOper := [
  ⟨(some 19), none, .mv (.t 6)⟩,
  ⟨(some 20), none, .bin .add (.t 19) (.c (.int .i64 1))⟩,
  ⟨(some 6), none, .asg (.t 20)⟩]
def r_ingotref12_Back_11 : ICode := .region r_ingotref12_Back_11_o [] [4, 5, 6]
@[go_sem] theorem r_ingotref12_Back_11_u {X : Kx} {K : List Kf} {s : St} : go X (.c r_ingotref12_Back_11 :: K) s = goR X r_ingotref12_Back_11_o [4, 5, 6] K s := go_region _ _
def b_ingotref12_Back_12 : ICode := (.seq (.seq r_ingotref12_Back_7 (.cond (.t 18) .skip (.exit 0))) (.seq (.block 1 (.seq r_ingotref12_Back_8 (.seq r_ingotref12_Back_9 (.cond (.t 24) (.seq r_ingotref12_Back_10 .ret) .skip)))) r_ingotref12_Back_11))
@[go_sem] theorem b_ingotref12_Back_12_u {X : Kx} {K : List Kf} {s : St} : go X (.c b_ingotref12_Back_12 :: K) s = go X (.c (.seq (.seq r_ingotref12_Back_7 (.cond (.t 18) .skip (.exit 0))) (.seq (.block 1 (.seq r_ingotref12_Back_8 (.seq r_ingotref12_Back_9 (.cond (.t 24) (.seq r_ingotref12_Back_10 .ret) .skip)))) r_ingotref12_Back_11)) :: K) s := rfl
@[go_sem] def r_ingotref12_Back_13_o : List IOper := [
  ⟨(some 25), none, .mv (.t 5)⟩,
  ⟨(some 26), none, .cvInt .i64 (.t 25)⟩,
  ⟨(some 2), none, .asg (.t 26)⟩,
  ⟨(some 3), none, .asg (.c (.int .i64 0))⟩]
def r_ingotref12_Back_13 : ICode := .region r_ingotref12_Back_13_o [] [2, 3]
@[go_sem] theorem r_ingotref12_Back_13_u {X : Kx} {K : List Kf} {s : St} : go X (.c r_ingotref12_Back_13 :: K) s = goR X r_ingotref12_Back_13_o [2, 3] K s := go_region _ _
def c_ingotref12_Back : ICode := (.seq r_ingotref12_Back_0 (.seq r_ingotref12_Back_1 (.seq r_ingotref12_Back_2 (.seq (.seq r_ingotref12_Back_3 (.cond (.t 13) (.seq r_ingotref12_Back_4 .ret) .skip)) (.seq (.seq r_ingotref12_Back_5 (.cond (.t 15) (.seq r_ingotref12_Back_6 (.block 0 (.loop b_ingotref12_Back_12))) .skip)) (.seq r_ingotref12_Back_13 .ret))))))
def i_ingotref12_Back : IFunc := ⟨1, [.t 2, .t 3], c_ingotref12_Back⟩
def a_ingotref12_Back : Advice := ⟨[], [(12, [2, 3]), (8, [4, 5, 6]), (11, [2, 3]), (10, [4, 5, 6, 24]), (9, [4, 5, 6]), (7, [4, 5, 6, 18]), (6, [4, 5, 6]), (5, [4, 5, 15]), (4, [2, 3]), (3, [4, 5, 13]), (2, [4, 5]), (1, [0, 4]), (0, [0])], [], []⟩
/-! ingot/stamp.Check -/
@[go_sem] def r_stamp_Check_0_o : List IOper := [
  ⟨(some 4), none, .asg (.c (.bool false))⟩]
def r_stamp_Check_0 : ICode := .region r_stamp_Check_0_o [] [0, 1]
@[go_sem] theorem r_stamp_Check_0_u {X : Kx} {K : List Kf} {s : St} : go X (.c r_stamp_Check_0 :: K) s = goR X r_stamp_Check_0_o [0, 1] K s := go_region _ _
@[go_sem] def r_stamp_Check_1_o : List IOper := [
  ⟨(some 5), none, .mv (.t 0)⟩,
  ⟨(some 6), none, .bin .geq (.t 5) (.c (.int .i64 (-1099511627776)))⟩,
  ⟨(some 7), none, .mv (.t 6)⟩,
  ⟨(some 8), some (7, true), .mv (.t 0)⟩,
  ⟨(some 9), some (7, true), .bin .leq (.t 8) (.c (.int .i64 1099511627776))⟩,
  ⟨(some 10), none, .pick (.t 7) (.t 9) (.c (.bool false))⟩,
  ⟨(some 11), none, .mv (.t 10)⟩,
  ⟨(some 12), some (11, true), .mv (.t 1)⟩,
  ⟨(some 13), some (11, true), .bin .geq (.t 12) (.c (.int .i64 0))⟩,
  ⟨(some 14), none, .pick (.t 11) (.t 13) (.c (.bool false))⟩,
  ⟨(some 15), none, .mv (.t 14)⟩,
  ⟨(some 16), some (15, true), .mv (.t 1)⟩,
  ⟨(some 17), some (15, true), .bin .leq (.t 16) (.c (.int .i64 999999999))⟩,
  ⟨(some 18), none, .pick (.t 15) (.t 17) (.c (.bool false))⟩,
  ⟨(some 4), none, .asg (.t 18)⟩]
def r_stamp_Check_1 : ICode := .region r_stamp_Check_1_o [] [4]
@[go_sem] theorem r_stamp_Check_1_u {X : Kx} {K : List Kf} {s : St} : go X (.c r_stamp_Check_1 :: K) s = goR X r_stamp_Check_1_o [4] K s := go_region _ _
def c_stamp_Check : ICode := (.seq r_stamp_Check_0 (.seq r_stamp_Check_1 .ret))
def i_stamp_Check : IFunc := ⟨2, [.t 4], c_stamp_Check⟩
def a_stamp_Check : Advice := ⟨[], [(1, [4]), (0, [0, 1])], [], []⟩
/-! unicode/utf8.ValidRune -/
@[go_sem] def r_utf8_ValidRune_0_o : List IOper := [
  ⟨(some 2), none, .asg (.c (.bool false))⟩]
def r_utf8_ValidRune_0 : ICode := .region r_utf8_ValidRune_0_o [] [0]
@[go_sem] theorem r_utf8_ValidRune_0_u {X : Kx} {K : List Kf} {s : St} : go X (.c r_utf8_ValidRune_0 :: K) s = goR X r_utf8_ValidRune_0_o [0] K s := go_region _ _
@[go_sem] def r_utf8_ValidRune_1_o : List IOper := [
  ⟨(some 4), none, .mv (.t 0)⟩,
  ⟨(some 5), none, .bin .leq (.c (.int .i32 0)) (.t 4)⟩,
  ⟨(some 6), none, .mv (.t 5)⟩,
  ⟨(some 7), some (6, true), .mv (.t 0)⟩,
  ⟨(some 8), some (6, true), .bin .lss (.t 7) (.c (.int .i32 55296))⟩,
  ⟨(some 9), none, .pick (.t 6) (.t 8) (.c (.bool false))⟩,
  ⟨(some 3), none, .asg (.t 9)⟩]
def r_utf8_ValidRune_1 : ICode := .region r_utf8_ValidRune_1_o [] [0, 3]
@[go_sem] theorem r_utf8_ValidRune_1_u {X : Kx} {K : List Kf} {s : St} : go X (.c r_utf8_ValidRune_1 :: K) s = goR X r_utf8_ValidRune_1_o [0, 3] K s := go_region _ _
@[go_sem] def r_utf8_ValidRune_2_o : List IOper := [
  ⟨(some 2), none, .asg (.c (.bool true))⟩]
def r_utf8_ValidRune_2 : ICode := .region r_utf8_ValidRune_2_o [] [2]
@[go_sem] theorem r_utf8_ValidRune_2_u {X : Kx} {K : List Kf} {s : St} : go X (.c r_utf8_ValidRune_2 :: K) s = goR X r_utf8_ValidRune_2_o [2] K s := go_region _ _
@[go_sem] def r_utf8_ValidRune_3_o : List IOper := [
  ⟨(some 11), none, .mv (.t 0)⟩,
  ⟨(some 12), none, .bin .lss (.c (.int .i32 57343)) (.t 11)⟩,
  ⟨(some 13), none, .mv (.t 12)⟩,
  ⟨(some 14), some (13, true), .mv (.t 0)⟩,
  ⟨(some 15), some (13, true), .bin .leq (.t 14) (.c (.int .i32 1114111))⟩,
  ⟨(some 16), none, .pick (.t 13) (.t 15) (.c (.bool false))⟩,
  ⟨(some 10), none, .asg (.t 16)⟩]
def r_utf8_ValidRune_3 : ICode := .region r_utf8_ValidRune_3_o [] [10]
@[go_sem] theorem r_utf8_ValidRune_3_u {X : Kx} {K : List Kf} {s : St} : go X (.c r_utf8_ValidRune_3 :: K) s = goR X r_utf8_ValidRune_3_o [10] K s := go_region _ _
@[go_sem] def r_utf8_ValidRune_4_o : List IOper := [
  ⟨(some 2), none, .asg (.c (.bool true))⟩]
def r_utf8_ValidRune_4 : ICode := .region r_utf8_ValidRune_4_o [] [2]
@[go_sem] theorem r_utf8_ValidRune_4_u {X : Kx} {K : List Kf} {s : St} : go X (.c r_utf8_ValidRune_4 :: K) s = goR X r_utf8_ValidRune_4_o [2] K s := go_region _ _
@[go_sem] def r_utf8_ValidRune_5_o : List IOper := [
  ⟨(some 2), none, .asg (.c (.bool false))⟩]
def r_utf8_ValidRune_5 : ICode := .region r_utf8_ValidRune_5_o [] [2]
@[go_sem] theorem r_utf8_ValidRune_5_u {X : Kx} {K : List Kf} {s : St} : go X (.c r_utf8_ValidRune_5 :: K) s = goR X r_utf8_ValidRune_5_o [2] K s := go_region _ _
def c_utf8_ValidRune : ICode := (.seq r_utf8_ValidRune_0 (.seq (.block 0 (.seq r_utf8_ValidRune_1 (.cond (.t 3) (.seq r_utf8_ValidRune_2 .ret) (.seq r_utf8_ValidRune_3 (.cond (.t 10) (.seq r_utf8_ValidRune_4 .ret) .skip))))) (.seq r_utf8_ValidRune_5 .ret)))
def i_utf8_ValidRune : IFunc := ⟨1, [.t 2], c_utf8_ValidRune⟩
def a_utf8_ValidRune : Advice := ⟨[], [(5, [2]), (2, [2]), (4, [2]), (3, [10]), (1, [0, 3]), (0, [0])], [], []⟩
/-! internal/stringslite.IndexByte -/
@[go_sem] def r_stringslite_IndexByte_0_o : List IOper := [
  ⟨(some 4), none, .asg (.c (.int .i64 0))⟩]
def r_stringslite_IndexByte_0 : ICode := .region r_stringslite_IndexByte_0_o [] [0, 1]
@[go_sem] theorem r_stringslite_IndexByte_0_u {X : Kx} {K : List Kf} {s : St} : go X (.c r_stringslite_IndexByte_0 :: K) s = goR X r_stringslite_IndexByte_0_o [0, 1] K s := go_region _ _
@[go_sem] def r_stringslite_IndexByte_1_o : List IOper := [
  ⟨(some 5), none, .mv (.t 0)⟩,
  ⟨(some 6), none, .mv (.t 1)⟩,
  ⟨(some 7), none, .call false n_bytealg_IndexByteString [(.t 5), (.t 6)]⟩,
  ⟨(some 4), none, .asg (.t 7)⟩]
def r_stringslite_IndexByte_1 : ICode := .region r_stringslite_IndexByte_1_o [] [4]
@[go_sem] theorem r_stringslite_IndexByte_1_u {X : Kx} {K : List Kf} {s : St} : go X (.c r_stringslite_IndexByte_1 :: K) s = goR X r_stringslite_IndexByte_1_o [4] K s := go_region _ _
def c_stringslite_IndexByte : ICode := (.seq r_stringslite_IndexByte_0 (.seq r_stringslite_IndexByte_1 .ret))
def i_stringslite_IndexByte : IFunc := ⟨2, [.t 4], c_stringslite_IndexByte⟩
def a_stringslite_IndexByte : Advice := ⟨[], [(1, [4]), (0, [0, 1])], [], []⟩
/-! strings.IndexByte -/
@[go_sem] def r_strings_IndexByte_0_o : List IOper := [
  ⟨(some 4), none, .asg (.c (.int .i64 0))⟩]
def r_strings_IndexByte_0 : ICode := .region r_strings_IndexByte_0_o [] [0, 1]
@[go_sem] theorem r_strings_IndexByte_0_u {X : Kx} {K : List Kf} {s : St} : go X (.c r_strings_IndexByte_0 :: K) s = goR X r_strings_IndexByte_0_o [0, 1] K s := go_region _ _
@[go_sem] def r_strings_IndexByte_1_o : List IOper := [
  ⟨(some 5), none, .mv (.t 0)⟩,
  ⟨(some 6), none, .mv (.t 1)⟩,
  ⟨(some 7), none, .call false n_stringslite_IndexByte [(.t 5), (.t 6)]⟩,
  ⟨(some 4), none, .asg (.t 7)⟩]
def r_strings_IndexByte_1 : ICode := .region r_strings_IndexByte_1_o [] [4]
@[go_sem] theorem r_strings_IndexByte_1_u {X : Kx} {K : List Kf} {s : St} : go X (.c r_strings_IndexByte_1 :: K) s = goR X r_strings_IndexByte_1_o [4] K s := go_region _ _
def c_strings_IndexByte : ICode := (.seq r_strings_IndexByte_0 (.seq r_strings_IndexByte_1 .ret))
def i_strings_IndexByte : IFunc := ⟨2, [.t 4], c_strings_IndexByte⟩
def a_strings_IndexByte : Advice := ⟨[], [(1, [4]), (0, [0, 1])], [], []⟩
/-! strings.IndexRune -/
@[go_sem] def r_strings_IndexRune_0_o : List IOper := [
  ⟨(some 4), none, .asg (.c (.int .i64 0))⟩]
def r_strings_IndexRune_0 : ICode := .region r_strings_IndexRune_0_o [] [0, 1, 4]
@[go_sem] theorem r_strings_IndexRune_0_u {X : Kx} {K : List Kf} {s : St} : go X (.c r_strings_IndexRune_0 :: K) s = goR X r_strings_IndexRune_0_o [0, 1, 4] K s := go_region _ _
@[go_sem] def r_strings_IndexRune_1_o : List IOper := [
  ⟨(some 161), none, .mv (.t 1)⟩,
  ⟨(some 162), none, .bin .leq (.c (.int .i32 0)) (.t 161)⟩,
  ⟨(some 163), none, .mv (.t 162)⟩,
  ⟨(some 164), some (163, true), .mv (.t 1)⟩,
  ⟨(some 165), some (163, true), .bin .lss (.t 164) (.c (.int .i32 128))⟩,
  ⟨(some 166), none, .pick (.t 163) (.t 165) (.c (.bool false))⟩,
  ⟨(some 160), none, .asg (.t 166)⟩]
def r_strings_IndexRune_1 : ICode := .region r_strings_IndexRune_1_o [] [0, 1, 4, 160]
@[go_sem] theorem r_strings_IndexRune_1_u {X : Kx} {K : List Kf} {s : St} : go X (.c r_strings_IndexRune_1 :: K) s = goR X r_strings_IndexRune_1_o [0, 1, 4, 160] K s := go_region _ _
@[go_sem] def r_strings_IndexRune_2_o : List IOper := [
  ⟨(some 167), none, .mv (.t 0)⟩,
  ⟨(some 168), none, .mv (.t 1)⟩,
  ⟨(some 169), none, .cvInt .u8 (.t 168)⟩,
  ⟨(some 170), none, .call false n_strings_IndexByte [(.t 167), (.t 169)]⟩,
  ⟨(some 4), none, .asg (.t 170)⟩]
def r_strings_IndexRune_2 : ICode := .region r_strings_IndexRune_2_o [] [4]
@[go_sem] theorem r_strings_IndexRune_2_u {X : Kx} {K : List Kf} {s : St} : go X (.c r_strings_IndexRune_2 :: K) s = goR X r_strings_IndexRune_2_o [4] K s := go_region _ _
@[go_sem] def r_strings_IndexRune_3_o : List IOper := [
  ⟨(some 172), none, .mv (.t 1)⟩,
  ⟨(some 173), none, .bin .eql (.t 172) (.c (.int .i32 65533))⟩,
  ⟨(some 171), none, .asg (.t 173)⟩]
def r_strings_IndexRune_3 : ICode := .region r_strings_IndexRune_3_o [] [0, 1, 4, 171]
@[go_sem] theorem r_strings_IndexRune_3_u {X : Kx} {K : List Kf} {s : St} : go X (.c r_strings_IndexRune_3 :: K) s = goR X r_strings_IndexRune_3_o [0, 1, 4, 171] K s := go_region _ _
@[go_sem] def r_strings_IndexRune_4_o : List IOper := [
  ⟨(some 174), none, .mv (.t 0)⟩,
  ⟨(some 175), none, .bad⟩]
def r_strings_IndexRune_4 : ICode := .region r_strings_IndexRune_4_o [] [175]
@[go_sem] theorem r_strings_IndexRune_4_u {X : Kx} {K : List Kf} {s : St} : go X (.c r_strings_IndexRune_4 :: K) s = goR X r_strings_IndexRune_4_o [175] K s := go_region _ _
@[go_sem] def r_strings_IndexRune_5_o : List IOper := [
  ⟨(some 176), none, .bad⟩,
  ⟨(some 177), none, .ext (.t 176) 0⟩]
def r_strings_IndexRune_5 : ICode := .region r_strings_IndexRune_5_o [] [175, 176, 177]
@[go_sem] theorem r_strings_IndexRune_5_u {X : Kx} {K : List Kf} {s : St} : go X (.c r_strings_IndexRune_5 :: K) s = goR X r_strings_IndexRune_5_o [175, 176, 177] K s := go_region _ _
@[go_sem] def r_strings_IndexRune_6_o : List IOper := [
  ⟨(some 178), none, .ext (.t 176) 1⟩,
  ⟨(some 179), none, .ext (.t 176) 2⟩,
  ⟨(some 5), none, .asg (.t 178)⟩,
  ⟨(some 6), none, .asg (.t 179)⟩]
def r_strings_IndexRune_6 : ICode := .region r_strings_IndexRune_6_o [] [5, 6, 175]
@[go_sem] theorem r_strings_IndexRune_6_u {X : Kx} {K : List Kf} {s : St} : go X (.c r_strings_IndexRune_6 :: K) s = goR X r_strings_IndexRune_6_o [5, 6, 175] K s := go_region _ _
@[go_sem] def r_strings_IndexRune_7_o : List IOper := [
  ⟨(some 180), none, .mv (.t 6)⟩,
  ⟨(some 181), none, .bin .eql (.t 180) (.c (.int .i32 65533))⟩]
def r_strings_IndexRune_7 : ICode := .region r_strings_IndexRune_7_o [] [5, 175, 181]
@[go_sem] theorem r_strings_IndexRune_7_u {X : Kx} {K : List Kf} {s : St} : go X (.c r_strings_IndexRune_7 :: K) s = goR X r_strings_IndexRune_7_o [5, 175, 181] K s := go_region _ _
@[go_sem] def r_strings_IndexRune_8_o : List IOper := [
  ⟨(some 182), none, .mv (.t 5)⟩,
  ⟨(some 4), none, .asg (.t 182)⟩]
def r_strings_IndexRune_8 : ICode := .region r_strings_IndexRune_8_o [] [4]
@[go_sem] theorem r_strings_IndexRune_8_u {X : Kx} {K : List Kf} {s : St} : go X (.c r_strings_IndexRune_8 :: K) s = goR X r_strings_IndexRune_8_o [4] K s := go_region _ _
def b_strings_IndexRune_9 : ICode := (.seq r_strings_IndexRune_5 (.seq (.cond (.t 177) .skip (.exit 9)) (.block 10 (.seq r_strings_IndexRune_6 (.seq r_strings_IndexRune_7 (.cond (.t 181) (.seq r_strings_IndexRune_8 .ret) .skip))))))
@[go_sem] theorem b_strings_IndexRune_9_u {X : Kx} {K : List Kf} {s : St} : go X (.c b_strings_IndexRune_9 :: K) s = go X (.c (.seq r_strings_IndexRune_5 (.seq (.cond (.t 177) .skip (.exit 9)) (.block 10 (.seq r_strings_IndexRune_6 (.seq r_strings_IndexRune_7 (.cond (.t 181) (.seq r_strings_IndexRune_8 .ret) .skip)))))) :: K) s := rfl
@[go_sem] def r_strings_IndexRune_10_o : List IOper := [
  ⟨(some 4), none, .asg (.c (.int .i64 (-1)))⟩]
def r_strings_IndexRune_10 : ICode := .region r_strings_IndexRune_10_o [] [4]
@[go_sem] theorem r_strings_IndexRune_10_u {X : Kx} {K : List Kf} {s : St} : go X (.c r_strings_IndexRune_10 :: K) s = goR X r_strings_IndexRune_10_o [4] K s := go_region _ _
@[go_sem] def r_strings_IndexRune_11_o : List IOper := [
  ⟨(some 184), none, .mv (.t 1)⟩,
  ⟨(some 185), none, .call false n_utf8_ValidRune [(.t 184)]⟩,
  ⟨(some 186), none, .un .not (.t 185)⟩,
  ⟨(some 183), none, .asg (.t 186)⟩]
def r_strings_IndexRune_11 : ICode := .region r_strings_IndexRune_11_o [] [4, 183]
@[go_sem] theorem r_strings_IndexRune_11_u {X : Kx} {K : List Kf} {s : St} : go X (.c r_strings_IndexRune_11 :: K) s = goR X r_strings_IndexRune_11_o [4, 183] K s := go_region _ _
@[go_sem] def r_strings_IndexRune_12_o : List IOper := [
  ⟨(some 4), none, .asg (.c (.int .i64 (-1)))⟩]
def r_strings_IndexRune_12 : ICode := .region r_strings_IndexRune_12_o [] [4]
@[go_sem] theorem r_strings_IndexRune_12_u {X : Kx} {K : List Kf} {s : St} : go X (.c r_strings_IndexRune_12 :: K) s = goR X r_strings_IndexRune_12_o [4] K s := go_region _ _
def c_strings_IndexRune : ICode := (.seq r_strings_IndexRune_0 (.block 0 (.seq r_strings_IndexRune_1 (.cond (.t 160) (.seq r_strings_IndexRune_2 .ret) (.seq r_strings_IndexRune_3 (.cond (.t 171) (.seq (.seq r_strings_IndexRune_4 (.block 9 (.loop b_strings_IndexRune_9))) (.seq r_strings_IndexRune_10 .ret)) (.seq r_strings_IndexRune_11 (.cond (.t 183) (.seq r_strings_IndexRune_12 .ret) .bad))))))))
def i_strings_IndexRune : IFunc := ⟨2, [.t 4], c_strings_IndexRune⟩
def a_strings_IndexRune : Advice := ⟨[], [(35, [4]), (42, [4]), (41, [4]), (40, [5, 175, 181]), (39, [5, 6, 175]), (38, [175, 176, 177]), (37, [175]), (44, [4]), (43, [4, 183]), (36, [0, 1, 4, 171]), (34, [0, 1, 4, 160]), (0, [0, 1, 4])], [], []⟩
/-! strings.ContainsRune -/
@[go_sem] def r_strings_ContainsRune_0_o : List IOper := [
  ⟨(some 4), none, .asg (.c (.bool false))⟩]
def r_strings_ContainsRune_0 : ICode := .region r_strings_ContainsRune_0_o [] [0, 1]
@[go_sem] theorem r_strings_ContainsRune_0_u {X : Kx} {K : List Kf} {s : St} : go X (.c r_strings_ContainsRune_0 :: K) s = goR X r_strings_ContainsRune_0_o [0, 1] K s := go_region _ _
@[go_sem] def r_strings_ContainsRune_1_o : List IOper := [
  ⟨(some 5), none, .mv (.t 0)⟩,
  ⟨(some 6), none, .mv (.t 1)⟩,
  ⟨(some 7), none, .call false n_strings_IndexRune [(.t 5), (.t 6)]⟩,
  ⟨(some 8), none, .bin .geq (.t 7) (.c (.int .i64 0))⟩,
  ⟨(some 4), none, .asg (.t 8)⟩]
def r_strings_ContainsRune_1 : ICode := .region r_strings_ContainsRune_1_o [] [4]
@[go_sem] theorem r_strings_ContainsRune_1_u {X : Kx} {K : List Kf} {s : St} : go X (.c r_strings_ContainsRune_1 :: K) s = goR X r_strings_ContainsRune_1_o [4] K s := go_region _ _
def c_strings_ContainsRune : ICode := (.seq r_strings_ContainsRune_0 (.seq r_strings_ContainsRune_1 .ret))
def i_strings_ContainsRune : IFunc := ⟨2, [.t 4], c_strings_ContainsRune⟩
def a_strings_ContainsRune : Advice := ⟨[], [(1, [4]), (0, [0, 1])], [], []⟩
/-! unicode/utf8.decodeRuneInStringSlow -/
@[go_sem] def r_utf8_decodeRuneInStringSlow_0_o : List IOper := [
  ⟨(some 2), none, .asg (.c (.int .i32 0))⟩,
  ⟨(some 3), none, .asg (.c (.int .i64 0))⟩]
def r_utf8_decodeRuneInStringSlow_0 : ICode := .region r_utf8_decodeRuneInStringSlow_0_o [] [0]
@[go_sem] theorem r_utf8_decodeRuneInStringSlow_0_u {X : Kx} {K : List Kf} {s : St} : go X (.c r_utf8_decodeRuneInStringSlow_0 :: K) s = goR X r_utf8_decodeRuneInStringSlow_0_o [0] K s := go_region _ _
@[go_sem] def r_utf8_decodeRuneInStringSlow_1_o : List IOper := [
  ⟨(some 13), none, .mv (.t 0)⟩,
  ⟨(some 14), none, .len true (.t 13)⟩,
  ⟨(some 4), none, .asg (.t 14)⟩]
def r_utf8_decodeRuneInStringSlow_1 : ICode := .region r_utf8_decodeRuneInStringSlow_1_o [] [0, 4]
@[go_sem] theorem r_utf8_decodeRuneInStringSlow_1_u {X : Kx} {K : List Kf} {s : St} : go X (.c r_utf8_decodeRuneInStringSlow_1 :: K) s = goR X r_utf8_decodeRuneInStringSlow_1_o [0, 4] K s := go_region _ _
@[go_sem] def r_utf8_decodeRuneInStringSlow_2_o : List IOper := [
  ⟨(some 15), none, .mv (.t 4)⟩,
  ⟨(some 16), none, .bin .lss (.t 15) (.c (.int .i64 1))⟩]
def r_utf8_decodeRuneInStringSlow_2 : ICode := .region r_utf8_decodeRuneInStringSlow_2_o [] [0, 4, 16]
@[go_sem] theorem r_utf8_decodeRuneInStringSlow_2_u {X : Kx} {K : List Kf} {s : St} : go X (.c r_utf8_decodeRuneInStringSlow_2 :: K) s = goR X r_utf8_decodeRuneInStringSlow_2_o [0, 4, 16] K s := go_region _ _
@[go_sem] def r_utf8_decodeRuneInStringSlow_3_o : List IOper := [
  ⟨(some 2), none, .asg (.c (.int .i32 65533))⟩,
  ⟨(some 3), none, .asg (.c (.int .i64 0))⟩]
def r_utf8_decodeRuneInStringSlow_3 : ICode := .region r_utf8_decodeRuneInStringSlow_3_o [] [2, 3]
@[go_sem] theorem r_utf8_decodeRuneInStringSlow_3_u {X : Kx} {K : List Kf} {s : St} : go X (.c r_utf8_decodeRuneInStringSlow_3 :: K) s = goR X r_utf8_decodeRuneInStringSlow_3_o [2, 3] K s := go_region _ _
@[go_sem] def r_utf8_decodeRuneInStringSlow_4_o : List IOper := [
  ⟨(some 17), none, .mv (.t 0)⟩,
  ⟨(some 18), none, .idxS (.t 17) (.c (.int .i64 0))⟩,
  ⟨(some 5), none, .asg (.t 18)⟩]
def r_utf8_decodeRuneInStringSlow_4 : ICode := .region r_utf8_decodeRuneInStringSlow_4_o [] [0, 4, 5]
@[go_sem] theorem r_utf8_decodeRuneInStringSlow_4_u {X : Kx} {K : List Kf} {s : St} : go X (.c r_utf8_decodeRuneInStringSlow_4 :: K) s = goR X r_utf8_decodeRuneInStringSlow_4_o [0, 4, 5] K s := go_region _ _
@[go_sem] def r_utf8_decodeRuneInStringSlow_5_o : List IOper := [
  ⟨(some 19), none, .mv (.t 5)⟩,
  ⟨(some 20), none, .bad⟩,
  ⟨(some 21), none, .load none (.t 20)⟩,
  ⟨(some 6), none, .asg (.t 21)⟩]
def r_utf8_decodeRuneInStringSlow_5 : ICode := .region r_utf8_decodeRuneInStringSlow_5_o [] [0, 4, 5, 6]
@[go_sem] theorem r_utf8_decodeRuneInStringSlow_5_u {X : Kx} {K : List Kf} {s : St} : go X (.c r_utf8_decodeRuneInStringSlow_5 :: K) s = goR X r_utf8_decodeRuneInStringSlow_5_o [0, 4, 5, 6] K s := go_region _ _
@[go_sem] def r_utf8_decodeRuneInStringSlow_6_o : List IOper := [
  ⟨(some 22), none, .mv (.t 6)⟩,
  ⟨(some 23), none, .bin .geq (.t 22) (.c (.int .u8 240))⟩]
def r_utf8_decodeRuneInStringSlow_6 : ICode := .region r_utf8_decodeRuneInStringSlow_6_o [] [0, 4, 5, 6, 23]
@[go_sem] theorem r_utf8_decodeRuneInStringSlow_6_u {X : Kx} {K : List Kf} {s : St} : go X (.c r_utf8_decodeRuneInStringSlow_6 :: K) s = goR X r_utf8_decodeRuneInStringSlow_6_o [0, 4, 5, 6, 23] K s := go_region _ _
@[go_sem] def r_utf8_decodeRuneInStringSlow_7_o : List IOper := [
  ⟨(some 24), none, .mv (.t 6)⟩,
  ⟨(some 25), none, .cvInt .i32 (.t 24)⟩,
  ⟨(some 26), none, .bin .shl (.t 25) (.c (.int .u64 31))⟩,
  ⟨(some 27), none, .bin .shr (.t 26) (.c (.int .u64 31))⟩,
  ⟨(some 7), none, .asg (.t 27)⟩]
def r_utf8_decodeRuneInStringSlow_7 : ICode := .region r_utf8_decodeRuneInStringSlow_7_o [] [0, 7]
@[go_sem] theorem r_utf8_decodeRuneInStringSlow_7_u {X : Kx} {K : List Kf} {s : St} : go X (.c r_utf8_decodeRuneInStringSlow_7 :: K) s = goR X r_utf8_decodeRuneInStringSlow_7_o [0, 7] K s := go_region _ _
@[go_sem] def r_utf8_decodeRuneInStringSlow_8_o : List IOper := [
  ⟨(some 28), none, .mv (.t 0)⟩,
  ⟨(some 29), none, .idxS (.t 28) (.c (.int .i64 0))⟩,
  ⟨(some 30), none, .cvInt .i32 (.t 29)⟩,
  ⟨(some 31), none, .mv (.t 7)⟩,
  ⟨(some 32), none, .bin .andNot (.t 30) (.t 31)⟩,
  ⟨(some 33), none, .mv (.t 7)⟩,
  ⟨(some 34), none, .bin .and (.c (.int .i32 65533)) (.t 33)⟩,
  ⟨(some 35), none, .bin .or (.t 32) (.t 34)⟩,
  ⟨(some 2), none, .asg (.t 35)⟩,
  ⟨(some 3), none, .asg (.c (.int .i64 1))⟩]
def r_utf8_decodeRuneInStringSlow_8 : ICode := .region r_utf8_decodeRuneInStringSlow_8_o [] [2, 3]
@[go_sem] theorem r_utf8_decodeRuneInStringSlow_8_u {X : Kx} {K : List Kf} {s : St} : go X (.c r_utf8_decodeRuneInStringSlow_8 :: K) s = goR X r_utf8_decodeRuneInStringSlow_8_o [2, 3] K s := go_region _ _
@[go_sem] def r_utf8_decodeRuneInStringSlow_9_o : List IOper := [
  ⟨(some 36), none, .mv (.t 6)⟩,
  ⟨(some 37), none, .bin .and (.t 36) (.c (.int .u8 7))⟩,
  ⟨(some 38), none, .cvInt .i64 (.t 37)⟩,
  ⟨(some 8), none, .asg (.t 38)⟩]
def r_utf8_decodeRuneInStringSlow_9 : ICode := .region r_utf8_decodeRuneInStringSlow_9_o [] [0, 4, 5, 6, 8]
@[go_sem] theorem r_utf8_decodeRuneInStringSlow_9_u {X : Kx} {K : List Kf} {s : St} : go X (.c r_utf8_decodeRuneInStringSlow_9 :: K) s = goR X r_utf8_decodeRuneInStringSlow_9_o [0, 4, 5, 6, 8] K s := go_region _ _
@[go_sem] def r_utf8_decodeRuneInStringSlow_10_o : List IOper := [
  ⟨(some 39), none, .mv (.t 6)⟩,
  ⟨(some 40), none, .bin .shr (.t 39) (.c (.int .u64 4))⟩,
  ⟨(some 41), none, .bad⟩,
  ⟨(some 42), none, .load (some 2) (.t 41)⟩,
  ⟨(some 9), none, .alloc [(.int .u8 0), (.int .u8 0)]⟩,
  ⟨none, none, .store 2 (.t 9) (.t 42)⟩]
def r_utf8_decodeRuneInStringSlow_10 : ICode := .region r_utf8_decodeRuneInStringSlow_10_o [] [0, 4, 5, 8, 9]
@[go_sem] theorem r_utf8_decodeRuneInStringSlow_10_u {X : Kx} {K : List Kf} {s : St} : go X (.c r_utf8_decodeRuneInStringSlow_10 :: K) s = goR X r_utf8_decodeRuneInStringSlow_10_o [0, 4, 5, 8, 9] K s := go_region _ _
@[go_sem] def r_utf8_decodeRuneInStringSlow_11_o : List IOper := [
  ⟨(some 43), none, .mv (.t 4)⟩,
  ⟨(some 44), none, .mv (.t 8)⟩,
  ⟨(some 45), none, .bin .lss (.t 43) (.t 44)⟩]
def r_utf8_decodeRuneInStringSlow_11 : ICode := .region r_utf8_decodeRuneInStringSlow_11_o [] [0, 5, 8, 9, 45]
@[go_sem] theorem r_utf8_decodeRuneInStringSlow_11_u {X : Kx} {K : List Kf} {s : St} : go X (.c r_utf8_decodeRuneInStringSlow_11 :: K) s = goR X r_utf8_decodeRuneInStringSlow_11_o [0, 5, 8, 9, 45] K s := go_region _ _
@[go_sem] def r_utf8_decodeRuneInStringSlow_12_o : List IOper := [
  ⟨(some 2), none, .asg (.c (.int .i32 65533))⟩,
  ⟨(some 3), none, .asg (.c (.int .i64 1))⟩]
def r_utf8_decodeRuneInStringSlow_12 : ICode := .region r_utf8_decodeRuneInStringSlow_12_o [] [2, 3]
@[go_sem] theorem r_utf8_decodeRuneInStringSlow_12_u {X : Kx} {K : List Kf} {s : St} : go X (.c r_utf8_decodeRuneInStringSlow_12 :: K) s = goR X r_utf8_decodeRuneInStringSlow_12_o [2, 3] K s := go_region _ _
@[go_sem] def r_utf8_decodeRuneInStringSlow_13_o : List IOper := [
  ⟨(some 46), none, .mv (.t 0)⟩,
  ⟨(some 47), none, .idxS (.t 46) (.c (.int .i64 1))⟩,
  ⟨(some 10), none, .asg (.t 47)⟩]
def r_utf8_decodeRuneInStringSlow_13 : ICode := .region r_utf8_decodeRuneInStringSlow_13_o [] [0, 5, 8, 9, 10]
@[go_sem] theorem r_utf8_decodeRuneInStringSlow_13_u {X : Kx} {K : List Kf} {s : St} : go X (.c r_utf8_decodeRuneInStringSlow_13 :: K) s = goR X r_utf8_decodeRuneInStringSlow_13_o [0, 5, 8, 9, 10] K s := go_region _ _
@[go_sem] def r_utf8_decodeRuneInStringSlow_14_o : List IOper := [
  ⟨(some 48), none, .mv (.t 10)⟩,
  ⟨(some 49), none, .fieldA 0 (.t 9)⟩,
  ⟨(some 50), none, .load none (.t 49)⟩,
  ⟨(some 51), none, .bin .lss (.t 48) (.t 50)⟩,
  ⟨(some 52), none, .mv (.t 51)⟩,
  ⟨(some 53), some (52, false), .fieldA 1 (.t 9)⟩,
  ⟨(some 54), some (52, false), .load none (.t 53)⟩,
  ⟨(some 55), some (52, false), .mv (.t 10)⟩,
  ⟨(some 56), some (52, false), .bin .lss (.t 54) (.t 55)⟩,
  ⟨(some 57), none, .pick (.t 52) (.c (.bool true)) (.t 56)⟩]
def r_utf8_decodeRuneInStringSlow_14 : ICode := .region r_utf8_decodeRuneInStringSlow_14_o [] [0, 5, 8, 10, 57]
@[go_sem] theorem r_utf8_decodeRuneInStringSlow_14_u {X : Kx} {K : List Kf} {s : St} : go X (.c r_utf8_decodeRuneInStringSlow_14 :: K) s = goR X r_utf8_decodeRuneInStringSlow_14_o [0, 5, 8, 10, 57] K s := go_region _ _
@[go_sem] def r_utf8_decodeRuneInStringSlow_15_o : List IOper := [
  ⟨(some 2), none, .asg (.c (.int .i32 65533))⟩,
  ⟨(some 3), none, .asg (.c (.int .i64 1))⟩]
def r_utf8_decodeRuneInStringSlow_15 : ICode := .region r_utf8_decodeRuneInStringSlow_15_o [] [2, 3]
@[go_sem] theorem r_utf8_decodeRuneInStringSlow_15_u {X : Kx} {K : List Kf} {s : St} : go X (.c r_utf8_decodeRuneInStringSlow_15 :: K) s = goR X r_utf8_decodeRuneInStringSlow_15_o [2, 3] K s := go_region _ _
@[go_sem] def r_utf8_decodeRuneInStringSlow_16_o : List IOper := [
  ⟨(some 58), none, .mv (.t 8)⟩,
  ⟨(some 59), none, .bin .leq (.t 58) (.c (.int .i64 2))⟩]
def r_utf8_decodeRuneInStringSlow_16 : ICode := .region r_utf8_decodeRuneInStringSlow_16_o [] [0, 5, 8, 10, 59]
@[go_sem] theorem r_utf8_decodeRuneInStringSlow_16_u {X : Kx} {K : List Kf} {s : St} : go X (.c r_utf8_decodeRuneInStringSlow_16 :: K) s = goR X r_utf8_decodeRuneInStringSlow_16_o [0, 5, 8, 10, 59] K s := go_region _ _
@[go_sem] def r_utf8_decodeRuneInStringSlow_17_o : List IOper := [
  ⟨(some 60), none, .mv (.t 5)⟩,
  ⟨(some 61), none, .bin .and (.t 60) (.c (.int .u8 31))⟩,
  ⟨(some 62), none, .cvInt .i32 (.t 61)⟩,
  ⟨(some 63), none, .bin .shl (.t 62) (.c (.int .u64 6))⟩,
  ⟨(some 64), none, .mv (.t 10)⟩,
  ⟨(some 65), none, .bin .and (.t 64) (.c (.int .u8 63))⟩,
  ⟨(some 66), none, .cvInt .i32 (.t 65)⟩,
  ⟨(some 67), none, .bin .or (.t 63) (.t 66)⟩,
  ⟨(some 2), none, .asg (.t 67)⟩,
  ⟨(some 3), none, .asg (.c (.int .i64 2))⟩]
def r_utf8_decodeRuneInStringSlow_17 : ICode := .region r_utf8_decodeRuneInStringSlow_17_o [] [2, 3]
@[go_sem] theorem r_utf8_decodeRuneInStringSlow_17_u {X : Kx} {K : List Kf} {s : St} : go X (.c r_utf8_decodeRuneInStringSlow_17 :: K) s = goR X r_utf8_decodeRuneInStringSlow_17_o [2, 3] K s := go_region _ _
@[go_sem] def r_utf8_decodeRuneInStringSlow_18_o : List IOper := [
  ⟨(some 68), none, .mv (.t 0)⟩,
  ⟨(some 69), none, .idxS (.t 68) (.c (.int .i64 2))⟩,
  ⟨(some 11), none, .asg (.t 69)⟩]
def r_utf8_decodeRuneInStringSlow_18 : ICode := .region r_utf8_decodeRuneInStringSlow_18_o [] [0, 5, 8, 10, 11]
@[go_sem] theorem r_utf8_decodeRuneInStringSlow_18_u {X : Kx} {K : List Kf} {s : St} : go X (.c r_utf8_decodeRuneInStringSlow_18 :: K) s = goR X r_utf8_decodeRuneInStringSlow_18_o [0, 5, 8, 10, 11] K s := go_region _ _
@[go_sem] def r_utf8_decodeRuneInStringSlow_19_o : List IOper := [
  ⟨(some 70), none, .mv (.t 11)⟩,
  ⟨(some 71), none, .bin .lss (.t 70) (.c (.int .u8 128))⟩,
  ⟨(some 72), none, .mv (.t 71)⟩,
  ⟨(some 73), some (72, false), .mv (.t 11)⟩,
  ⟨(some 74), some (72, false), .bin .lss (.c (.int .u8 191)) (.t 73)⟩,
  ⟨(some 75), none, .pick (.t 72) (.c (.bool true)) (.t 74)⟩]
def r_utf8_decodeRuneInStringSlow_19 : ICode := .region r_utf8_decodeRuneInStringSlow_19_o [] [0, 5, 8, 10, 11, 75]
@[go_sem] theorem r_utf8_decodeRuneInStringSlow_19_u {X : Kx} {K : List Kf} {s : St} : go X (.c r_utf8_decodeRuneInStringSlow_19 :: K) s = goR X r_utf8_decodeRuneInStringSlow_19_o [0, 5, 8, 10, 11, 75] K s := go_region _ _
@[go_sem] def r_utf8_decodeRuneInStringSlow_20_o : List IOper := [
  ⟨(some 2), none, .asg (.c (.int .i32 65533))⟩,
  ⟨(some 3), none, .asg (.c (.int .i64 1))⟩]
def r_utf8_decodeRuneInStringSlow_20 : ICode := .region r_utf8_decodeRuneInStringSlow_20_o [] [2, 3]
@[go_sem] theorem r_utf8_decodeRuneInStringSlow_20_u {X : Kx} {K : List Kf} {s : St} : go X (.c r_utf8_decodeRuneInStringSlow_20 :: K) s = goR X r_utf8_decodeRuneInStringSlow_20_o [2, 3] K s := go_region _ _
@[go_sem] def r_utf8_decodeRuneInStringSlow_21_o : List IOper := [
  ⟨(some 76), none, .mv (.t 8)⟩,
  ⟨(some 77), none, .bin .leq (.t 76) (.c (.int .i64 3))⟩]
def r_utf8_decodeRuneInStringSlow_21 : ICode := .region r_utf8_decodeRuneInStringSlow_21_o [] [0, 5, 10, 11, 77]
@[go_sem] theorem r_utf8_decodeRuneInStringSlow_21_u {X : Kx} {K : List Kf} {s : St} : go X (.c r_utf8_decodeRuneInStringSlow_21 :: K) s = goR X r_utf8_decodeRuneInStringSlow_21_o [0, 5, 10, 11, 77] K s := go_region _ _
@[go_sem] def r_utf8_decodeRuneInStringSlow_22_o : List IOper := [
  ⟨(some 78), none, .mv (.t 5)⟩,
  ⟨(some 79), none, .bin .and (.t 78) (.c (.int .u8 15))⟩,
  ⟨(some 80), none, .cvInt .i32 (.t 79)⟩,
  ⟨(some 81), none, .bin .shl (.t 80) (.c (.int .u64 12))⟩,
  ⟨(some 82), none, .mv (.t 10)⟩,
  ⟨(some 83), none, .bin .and (.t 82) (.c (.int .u8 63))⟩,
  ⟨(some 84), none, .cvInt .i32 (.t 83)⟩,
  ⟨(some 85), none, .bin .shl (.t 84) (.c (.int .u64 6))⟩,
  ⟨(some 86), none, .bin .or (.t 81) (.t 85)⟩,
  ⟨(some 87), none, .mv (.t 11)⟩,
  ⟨(some 88), none, .bin .and (.t 87) (.c (.int .u8 63))⟩,
  ⟨(some 89), none, .cvInt .i32 (.t 88)⟩,
  ⟨(some 90), none, .bin .or (.t 86) (.t 89)⟩,
  ⟨(some 2), none, .asg (.t 90)⟩,
  ⟨(some 3), none, .asg (.c (.int .i64 3))⟩]
def r_utf8_decodeRuneInStringSlow_22 : ICode := .region r_utf8_decodeRuneInStringSlow_22_o [] [2, 3]
@[go_sem] theorem r_utf8_decodeRuneInStringSlow_22_u {X : Kx} {K : List Kf} {s : St} : go X (.c r_utf8_decodeRuneInStringSlow_22 :: K) s = goR X r_utf8_decodeRuneInStringSlow_22_o [2, 3] K s := go_region _ _
@[go_sem] def r_utf8_decodeRuneInStringSlow_23_o : List IOper := [
  ⟨(some 91), none, .mv (.t 0)⟩,
  ⟨(some 92), none, .idxS (.t 91) (.c (.int .i64 3))⟩,
  ⟨(some 12), none, .asg (.t 92)⟩]
def r_utf8_decodeRuneInStringSlow_23 : ICode := .region r_utf8_decodeRuneInStringSlow_23_o [] [5, 10, 11, 12]
@[go_sem] theorem r_utf8_decodeRuneInStringSlow_23_u {X : Kx} {K : List Kf} {s : St} : go X (.c r_utf8_decodeRuneInStringSlow_23 :: K) s = goR X r_utf8_decodeRuneInStringSlow_23_o [5, 10, 11, 12] K s := go_region _ _
@[go_sem] def r_utf8_decodeRuneInStringSlow_24_o : List IOper := [
  ⟨(some 93), none, .mv (.t 12)⟩,
  ⟨(some 94), none, .bin .lss (.t 93) (.c (.int .u8 128))⟩,
  ⟨(some 95), none, .mv (.t 94)⟩,
  ⟨(some 96), some (95, false), .mv (.t 12)⟩,
  ⟨(some 97), some (95, false), .bin .lss (.c (.int .u8 191)) (.t 96)⟩,
  ⟨(some 98), none, .pick (.t 95) (.c (.bool true)) (.t 97)⟩]
def r_utf8_decodeRuneInStringSlow_24 : ICode := .region r_utf8_decodeRuneInStringSlow_24_o [] [5, 10, 11, 12, 98]
@[go_sem] theorem r_utf8_decodeRuneInStringSlow_24_u {X : Kx} {K : List Kf} {s : St} : go X (.c r_utf8_decodeRuneInStringSlow_24 :: K) s = goR X r_utf8_decodeRuneInStringSlow_24_o [5, 10, 11, 12, 98] K s := go_region _ _
@[go_sem] def r_utf8_decodeRuneInStringSlow_25_o : List IOper := [
  ⟨(some 2), none, .asg (.c (.int .i32 65533))⟩,
  ⟨(some 3), none, .asg (.c (.int .i64 1))⟩]
def r_utf8_decodeRuneInStringSlow_25 : ICode := .region r_utf8_decodeRuneInStringSlow_25_o [] [2, 3]
@[go_sem] theorem r_utf8_decodeRuneInStringSlow_25_u {X : Kx} {K : List Kf} {s : St} : go X (.c r_utf8_decodeRuneInStringSlow_25 :: K) s = goR X r_utf8_decodeRuneInStringSlow_25_o [2, 3] K s := go_region _ _
@[go_sem] def r_utf8_decodeRuneInStringSlow_26_o : List IOper := [
  ⟨(some 99), none, .mv (.t 5)⟩,
  ⟨(some 100), none, .bin .and (.t 99) (.c (.int .u8 7))⟩,
  ⟨(some 101), none, .cvInt .i32 (.t 100)⟩,
  ⟨(some 102), none, .bin .shl (.t 101) (.c (.int .u64 18))⟩,
  ⟨(some 103), none, .mv (.t 10)⟩,
  ⟨(some 104), none, .bin .and (.t 103) (.c (.int .u8 63))⟩,
  ⟨(some 105), none, .cvInt .i32 (.t 104)⟩,
  ⟨(some 106), none, .bin .shl (.t 105) (.c (.int .u64 12))⟩,
  ⟨(some 107), none, .bin .or (.t 102) (.t 106)⟩,
  ⟨(some 108), none, .mv (.t 11)⟩,
  ⟨(some 109), none, .bin .and (.t 108) (.c (.int .u8 63))⟩,
  ⟨(some 110), none, .cvInt .i32 (.t 109)⟩,
  ⟨(some 111), none, .bin .shl (.t 110) (.c (.int .u64 6))⟩,
  ⟨(some 112), none, .bin .or (.t 107) (.t 111)⟩,
  ⟨(some 113), none, .mv (.t 12)⟩,
  ⟨(some 114), none, .bin .and (.t 113) (.c (.int .u8 63))⟩,
  ⟨(some 115), none, .cvInt .i32 (.t 114)⟩,
  ⟨(some 116), none, .bin .or (.t 112) (.t 115)⟩,
  ⟨(some 2), none, .asg (.t 116)⟩,
  ⟨(some 3), none, .asg (.c (.int .i64 4))⟩]
def r_utf8_decodeRuneInStringSlow_26 : ICode := .region r_utf8_decodeRuneInStringSlow_26_o [] [2, 3]
@[go_sem] theorem r_utf8_decodeRuneInStringSlow_26_u {X : Kx} {K : List Kf} {s : St} : go X (.c r_utf8_decodeRuneInStringSlow_26 :: K) s = goR X r_utf8_decodeRuneInStringSlow_26_o [2, 3] K s := go_region _ _
def c_utf8_decodeRuneInStringSlow : ICode := (.seq r_utf8_decodeRuneInStringSlow_0 (.seq r_utf8_decodeRuneInStringSlow_1 (.seq (.seq r_utf8_decodeRuneInStringSlow_2 (.cond (.t 16) (.seq r_utf8_decodeRuneInStringSlow_3 .ret) .skip)) (.seq r_utf8_decodeRuneInStringSlow_4 (.seq r_utf8_decodeRuneInStringSlow_5 (.seq (.seq r_utf8_decodeRuneInStringSlow_6 (.cond (.t 23) (.seq r_utf8_decodeRuneInStringSlow_7 (.seq r_utf8_decodeRuneInStringSlow_8 .ret)) .skip)) (.seq r_utf8_decodeRuneInStringSlow_9 (.seq r_utf8_decodeRuneInStringSlow_10 (.seq (.seq r_utf8_decodeRuneInStringSlow_11 (.cond (.t 45) (.seq r_utf8_decodeRuneInStringSlow_12 .ret) .skip)) (.seq r_utf8_decodeRuneInStringSlow_13 (.seq (.seq r_utf8_decodeRuneInStringSlow_14 (.cond (.t 57) (.seq r_utf8_decodeRuneInStringSlow_15 .ret) .skip)) (.seq (.seq r_utf8_decodeRuneInStringSlow_16 (.cond (.t 59) (.seq r_utf8_decodeRuneInStringSlow_17 .ret) .skip)) (.seq r_utf8_decodeRuneInStringSlow_18 (.seq (.seq r_utf8_decodeRuneInStringSlow_19 (.cond (.t 75) (.seq r_utf8_decodeRuneInStringSlow_20 .ret) .skip)) (.seq (.seq r_utf8_decodeRuneInStringSlow_21 (.cond (.t 77) (.seq r_utf8_decodeRuneInStringSlow_22 .ret) .skip)) (.seq r_utf8_decodeRuneInStringSlow_23 (.seq (.seq r_utf8_decodeRuneInStringSlow_24 (.cond (.t 98) (.seq r_utf8_decodeRuneInStringSlow_25 .ret) .skip)) (.seq r_utf8_decodeRuneInStringSlow_26 .ret))))))))))))))))))
def i_utf8_decodeRuneInStringSlow : IFunc := ⟨1, [.t 2, .t 3], c_utf8_decodeRuneInStringSlow⟩
def a_utf8_decodeRuneInStringSlow : Advice := ⟨[], [(26, [2, 3]), (25, [2, 3]), (24, [5, 10, 11, 12, 98]), (23, [5, 10, 11, 12]), (22, [2, 3]), (21, [0, 5, 10, 11, 77]), (20, [2, 3]), (19, [0, 5, 8, 10, 11, 75]), (18, [0, 5, 8, 10, 11]), (17, [2, 3]), (16, [0, 5, 8, 10, 59]), (15, [2, 3]), (14, [0, 5, 8, 10, 57]), (13, [0, 5, 8, 9, 10]), (12, [2, 3]), (11, [0, 5, 8, 9, 45]), (10, [0, 4, 5, 8, 9]), (9, [0, 4, 5, 6, 8]), (8, [2, 3]), (7, [0, 7]), (6, [0, 4, 5, 6, 23]), (5, [0, 4, 5, 6]), (4, [0, 4, 5]), (3, [2, 3]), (2, [0, 4, 16]), (1, [0, 4]), (0, [0])], [], []⟩
/-! unicode/utf8.DecodeRuneInString -/
@[go_sem] def r_utf8_DecodeRuneInString_0_o : List IOper := [
  ⟨(some 2), none, .asg (.c (.int .i32 0))⟩,
  ⟨(some 3), none, .asg (.c (.int .i64 0))⟩]
def r_utf8_DecodeRuneInString_0 : ICode := .region r_utf8_DecodeRuneInString_0_o [] [0]
@[go_sem] theorem r_utf8_DecodeRuneInString_0_u {X : Kx} {K : List Kf} {s : St} : go X (.c r_utf8_DecodeRuneInString_0 :: K) s = goR X r_utf8_DecodeRuneInString_0_o [0] K s := go_region _ _
@[go_sem] def r_utf8_DecodeRuneInString_1_o : List IOper := [
  ⟨(some 4), none, .mv (.t 0)⟩,
  ⟨(some 5), none, .bin .neq (.t 4) (.c (.str []))⟩,
  ⟨(some 6), none, .mv (.t 5)⟩,
  ⟨(some 7), some (6, true), .mv (.t 0)⟩,
  ⟨(some 8), some (6, true), .idxS (.t 7) (.c (.int .i64 0))⟩,
  ⟨(some 9), some (6, true), .bin .lss (.t 8) (.c (.int .u8 128))⟩,
  ⟨(some 10), none, .pick (.t 6) (.t 9) (.c (.bool false))⟩]
def r_utf8_DecodeRuneInString_1 : ICode := .region r_utf8_DecodeRuneInString_1_o [] [0, 10]
@[go_sem] theorem r_utf8_DecodeRuneInString_1_u {X : Kx} {K : List Kf} {s : St} : go X (.c r_utf8_DecodeRuneInString_1 :: K) s = goR X r_utf8_DecodeRuneInString_1_o [0, 10] K s := go_region _ _
@[go_sem] def r_utf8_DecodeRuneInString_2_o : List IOper := [
  ⟨(some 11), none, .mv (.t 0)⟩,
  ⟨(some 12), none, .idxS (.t 11) (.c (.int .i64 0))⟩,
  ⟨(some 13), none, .cvInt .i32 (.t 12)⟩,
  ⟨(some 2), none, .asg (.t 13)⟩,
  ⟨(some 3), none, .asg (.c (.int .i64 1))⟩]
def r_utf8_DecodeRuneInString_2 : ICode := .region r_utf8_DecodeRuneInString_2_o [] [2, 3]
@[go_sem] theorem r_utf8_DecodeRuneInString_2_u {X : Kx} {K : List Kf} {s : St} : go X (.c r_utf8_DecodeRuneInString_2 :: K) s = goR X r_utf8_DecodeRuneInString_2_o [2, 3] K s := go_region _ _
@[go_sem] def r_utf8_DecodeRuneInString_3_o : List IOper := [
  ⟨(some 15), none, .mv (.t 0)⟩,
  ⟨(some 16), none, .call false n_utf8_decodeRuneInStringSlow [(.t 15)]⟩,
  ⟨(some 14), none, .mv (.t 16)⟩,
  ⟨(some 17), none, .ext (.t 14) 0⟩,
  ⟨(some 18), none, .ext (.t 14) 1⟩,
  ⟨(some 2), none, .asg (.t 17)⟩,
  ⟨(some 3), none, .asg (.t 18)⟩]
def r_utf8_DecodeRuneInString_3 : ICode := .region r_utf8_DecodeRuneInString_3_o [] [2, 3]
@[go_sem] theorem r_utf8_DecodeRuneInString_3_u {X : Kx} {K : List Kf} {s : St} : go X (.c r_utf8_DecodeRuneInString_3 :: K) s = goR X r_utf8_DecodeRuneInString_3_o [2, 3] K s := go_region _ _
def c_utf8_DecodeRuneInString : ICode := (.seq r_utf8_DecodeRuneInString_0 (.seq (.seq r_utf8_DecodeRuneInString_1 (.cond (.t 10) (.seq r_utf8_DecodeRuneInString_2 .ret) r_utf8_DecodeRuneInString_3)) .ret))
def i_utf8_DecodeRuneInString : IFunc := ⟨1, [.t 2, .t 3], c_utf8_DecodeRuneInString⟩
def a_utf8_DecodeRuneInString : Advice := ⟨[], [(2, [2, 3]), (3, [2, 3]), (1, [0, 10]), (0, [0])], [], []⟩
/-! unicode/utf8.RuneStart -/
@[go_sem] def r_utf8_RuneStart_0_o : List IOper := [
  ⟨(some 2), none, .asg (.c (.bool false))⟩]
def r_utf8_RuneStart_0 : ICode := .region r_utf8_RuneStart_0_o [] [0]
@[go_sem] theorem r_utf8_RuneStart_0_u {X : Kx} {K : List Kf} {s : St} : go X (.c r_utf8_RuneStart_0 :: K) s = goR X r_utf8_RuneStart_0_o [0] K s := go_region _ _
@[go_sem] def r_utf8_RuneStart_1_o : List IOper := [
  ⟨(some 3), none, .mv (.t 0)⟩,
  ⟨(some 4), none, .bin .and (.t 3) (.c (.int .u8 192))⟩,
  ⟨(some 5), none, .bin .neq (.t 4) (.c (.int .u8 128))⟩,
  ⟨(some 2), none, .asg (.t 5)⟩]
def r_utf8_RuneStart_1 : ICode := .region r_utf8_RuneStart_1_o [] [2]
@[go_sem] theorem r_utf8_RuneStart_1_u {X : Kx} {K : List Kf} {s : St} : go X (.c r_utf8_RuneStart_1 :: K) s = goR X r_utf8_RuneStart_1_o [2] K s := go_region _ _
def c_utf8_RuneStart : ICode := (.seq r_utf8_RuneStart_0 (.seq r_utf8_RuneStart_1 .ret))
def i_utf8_RuneStart : IFunc := ⟨1, [.t 2], c_utf8_RuneStart⟩
def a_utf8_RuneStart : Advice := ⟨[], [(1, [2]), (0, [0])], [], []⟩
/-! unicode/utf8.DecodeLastRuneInString -/
@[go_sem] def r_utf8_DecodeLastRuneInString_0_o : List IOper := [
  ⟨(some 2), none, .asg (.c (.int .i32 0))⟩,
  ⟨(some 3), none, .asg (.c (.int .i64 0))⟩]
def r_utf8_DecodeLastRuneInString_0 : ICode := .region r_utf8_DecodeLastRuneInString_0_o [] [0]
@[go_sem] theorem r_utf8_DecodeLastRuneInString_0_u {X : Kx} {K : List Kf} {s : St} : go X (.c r_utf8_DecodeLastRuneInString_0 :: K) s = goR X r_utf8_DecodeLastRuneInString_0_o [0] K s := go_region _ _
@[go_sem] def r_utf8_DecodeLastRuneInString_1_o : List IOper := [
  ⟨(some 7), none, .mv (.t 0)⟩,
  ⟨(some 8), none, .len true (.t 7)⟩,
  ⟨(some 4), none, .asg (.t 8)⟩]
def r_utf8_DecodeLastRuneInString_1 : ICode := .region r_utf8_DecodeLastRuneInString_1_o [] [0, 4]
@[go_sem] theorem r_utf8_DecodeLastRuneInString_1_u {X : Kx} {K : List Kf} {s : St} : go X (.c r_utf8_DecodeLastRuneInString_1 :: K) s = goR X r_utf8_DecodeLastRuneInString_1_o [0, 4] K s := go_region _ _
@[go_sem] def r_utf8_DecodeLastRuneInString_2_o : List IOper := [
  ⟨(some 9), none, .mv (.t 4)⟩,
  ⟨(some 10), none, .bin .eql (.t 9) (.c (.int .i64 0))⟩]
def r_utf8_DecodeLastRuneInString_2 : ICode := .region r_utf8_DecodeLastRuneInString_2_o [] [0, 4, 10]
@[go_sem] theorem r_utf8_DecodeLastRuneInString_2_u {X : Kx} {K : List Kf} {s : St} : go X (.c r_utf8_DecodeLastRuneInString_2 :: K) s = goR X r_utf8_DecodeLastRuneInString_2_o [0, 4, 10] K s := go_region _ _
@[go_sem] def r_utf8_DecodeLastRuneInString_3_o : List IOper := [
  ⟨(some 2), none, .asg (.c (.int .i32 65533))⟩,
  ⟨(some 3), none, .asg (.c (.int .i64 0))⟩]
def r_utf8_DecodeLastRuneInString_3 : ICode := .region r_utf8_DecodeLastRuneInString_3_o [] [2, 3]
@[go_sem] theorem r_utf8_DecodeLastRuneInString_3_u {X : Kx} {K : List Kf} {s : St} : go X (.c r_utf8_DecodeLastRuneInString_3 :: K) s = goR X r_utf8_DecodeLastRuneInString_3_o [2, 3] K s := go_region _ _
@[go_sem] def r_utf8_DecodeLastRuneInString_4_o : List IOper := [
  ⟨(some 11), none, .mv (.t 4)⟩,
  ⟨(some 12), none, .bin .sub (.t 11) (.c (.int .i64 1))⟩,
  ⟨(some 5), none, .asg (.t 12)⟩]
def r_utf8_DecodeLastRuneInString_4 : ICode := .region r_utf8_DecodeLastRuneInString_4_o [] [0, 4, 5]
@[go_sem] theorem r_utf8_DecodeLastRuneInString_4_u {X : Kx} {K : List Kf} {s : St} : go X (.c r_utf8_DecodeLastRuneInString_4 :: K) s = goR X r_utf8_DecodeLastRuneInString_4_o [0, 4, 5] K s := go_region _ _
@[go_sem] def r_utf8_DecodeLastRuneInString_5_o : List IOper := [
  ⟨(some 13), none, .mv (.t 0)⟩,
  ⟨(some 14), none, .mv (.t 5)⟩,
  ⟨(some 15), none, .idxS (.t 13) (.t 14)⟩,
  ⟨(some 16), none, .cvInt .i32 (.t 15)⟩,
  ⟨(some 2), none, .asg (.t 16)⟩]
def r_utf8_DecodeLastRuneInString_5 : ICode := .region r_utf8_DecodeLastRuneInString_5_o [] [0, 2, 4, 5]
@[go_sem] theorem r_utf8_DecodeLastRuneInString_5_u {X : Kx} {K : List Kf} {s : St} : go X (.c r_utf8_DecodeLastRuneInString_5 :: K) s = goR X r_utf8_DecodeLastRuneInString_5_o [0, 2, 4, 5] K s := go_region _ _
@[go_sem] def r_utf8_DecodeLastRuneInString_6_o : List IOper := [
  ⟨(some 17), none, .mv (.t 2)⟩,
  ⟨(some 18), none, .bin .lss (.t 17) (.c (.int .i32 128))⟩]
def r_utf8_DecodeLastRuneInString_6 : ICode := .region r_utf8_DecodeLastRuneInString_6_o [] [0, 2, 4, 5, 18]
@[go_sem] theorem r_utf8_DecodeLastRuneInString_6_u {X : Kx} {K : List Kf} {s : St} : go X (.c r_utf8_DecodeLastRuneInString_6 :: K) s = goR X r_utf8_DecodeLastRuneInString_6_o [0, 2, 4, 5, 18] K s := go_region _ _
@[go_sem] def r_utf8_DecodeLastRuneInString_7_o : List IOper := [
  ⟨(some 19), none, .mv (.t 2)⟩,
  ⟨(some 2), none, .asg (.t 19)⟩,
  ⟨(some 3), none, .asg (.c (.int .i64 1))⟩]
def r_utf8_DecodeLastRuneInString_7 : ICode := .region r_utf8_DecodeLastRuneInString_7_o [] [2, 3]
@[go_sem] theorem r_utf8_DecodeLastRuneInString_7_u {X : Kx} {K : List Kf} {s : St} : go X (.c r_utf8_DecodeLastRuneInString_7 :: K) s = goR X r_utf8_DecodeLastRuneInString_7_o [2, 3] K s := go_region _ _
@[go_sem] def r_utf8_DecodeLastRuneInString_8_o : List IOper := [
  ⟨(some 20), none, .mv (.t 4)⟩,
  ⟨(some 21), none, .bin .sub (.t 20) (.c (.int .i64 4))⟩,
  ⟨(some 22), none, .minmax true [(.t 21), (.c (.int .i64 0))]⟩,
  ⟨(some 6), none, .asg (.t 22)⟩]
def r_utf8_DecodeLastRuneInString_8 : ICode := .region r_utf8_DecodeLastRuneInString_8_o [] [0, 4, 5, 6]
@[go_sem] theorem r_utf8_DecodeLastRuneInString_8_u {X : Kx} {K : List Kf} {s : St} : go X (.c r_utf8_DecodeLastRuneInString_8 :: K) s = goR X r_utf8_DecodeLastRuneInString_8_o [0, 4, 5, 6] K s := go_region _ _
@[go_sem] def r_utf8_DecodeLastRuneInString_9_o : List IOper := [
  ⟨(some 23), none, .mv (.t 5)⟩,
  ⟨(some 24), none, .bin .sub (.t 23) (.c (.int .i64 1))⟩,
  ⟨(some 5), none, .asg (.t 24)⟩]
def r_utf8_DecodeLastRuneInString_9 : ICode := .region r_utf8_DecodeLastRuneInString_9_o [] [0, 4, 5, 6]
@[go_sem] theorem r_utf8_DecodeLastRuneInString_9_u {X : Kx} {K : List Kf} {s : St} : go X (.c r_utf8_DecodeLastRuneInString_9 :: K) s = goR X r_utf8_DecodeLastRuneInString_9_o [0, 4, 5, 6] K s := go_region _ _
@[go_sem] def r_utf8_DecodeLastRuneInString_10_o : List IOper := [
  ⟨(some 25), none, .mv (.t 5)⟩,
  ⟨(some 26), none, .mv (.t 6)⟩,
  ⟨(some 27), none, .bin .geq (.t 25) (.t 26)⟩]
def r_utf8_DecodeLastRuneInString_10 : ICode := .region r_utf8_DecodeLastRuneInString_10_o [] [0, 4, 5, 6, 27]
@[go_sem] theorem r_utf8_DecodeLastRuneInString_10_u {X : Kx} {K : List Kf} {s : St} : go X (.c r_utf8_DecodeLastRuneInString_10 :: K) s = goR X r_utf8_DecodeLastRuneInString_10_o [0, 4, 5, 6, 27] K s := go_region _ _
@[go_sem] def r_utf8_DecodeLastRuneInString_11_o : List IOper := [
  ⟨(some 30), none, .mv (.t 0)⟩,
  ⟨(some 31), none, .mv (.t 5)⟩,
  ⟨(some 32), none, .idxS (.t 30) (.t 31)⟩,
  ⟨(some 33), none, .call false n_utf8_RuneStart [(.t 32)]⟩]
def r_utf8_DecodeLastRuneInString_11 : ICode := .region r_utf8_DecodeLastRuneInString_11_o [] [0, 4, 5, 6, 33]
@[go_sem] theorem r_utf8_DecodeLastRuneInString_11_u {X : Kx} {K : List Kf} {s : St} : go X (.c r_utf8_DecodeLastRuneInString_11 :: K) s = goR X r_utf8_DecodeLastRuneInString_11_o [0, 4, 5, 6, 33] K s := go_region _ _
@[go_sem] def r_utf8_DecodeLastRuneInString_12_o : List IOper := [
  ⟨(some 28), none, .mv (.t 5)⟩,
  ⟨(some 29), none, .bin .sub (.t 28) (.c (.int .i64 1))⟩,
  ⟨(some 5), none, .asg (.t 29)⟩]
def r_utf8_DecodeLastRuneInString_12 : ICode := .region r_utf8_DecodeLastRuneInString_12_o [] [0, 4, 5, 6]
@[go_sem] theorem r_utf8_DecodeLastRuneInString_12_u {X : Kx} {K : List Kf} {s : St} : go X (.c r_utf8_DecodeLastRuneInString_12 :: K) s = goR X r_utf8_DecodeLastRuneInString_12_o [0, 4, 5, 6] K s := go_region _ _
def b_utf8_DecodeLastRuneInString_13 : ICode := (.seq (.seq r_utf8_DecodeLastRuneInString_10 (.cond (.t 27) .skip (.exit 0))) (.seq (.block 1 (.seq r_utf8_DecodeLastRuneInString_11 (.cond (.t 33) (.exit 0) .skip))) r_utf8_DecodeLastRuneInString_12))
@[go_sem] theorem b_utf8_DecodeLastRuneInString_13_u {X : Kx} {K : List Kf} {s : St} : go X (.c b_utf8_DecodeLastRuneInString_13 :: K) s = go X (.c (.seq (.seq r_utf8_DecodeLastRuneInString_10 (.cond (.t 27) .skip (.exit 0))) (.seq (.block 1 (.seq r_utf8_DecodeLastRuneInString_11 (.cond (.t 33) (.exit 0) .skip))) r_utf8_DecodeLastRuneInString_12)) :: K) s := rfl
@[go_sem] def r_utf8_DecodeLastRuneInString_14_o : List IOper := [
  ⟨(some 34), none, .mv (.t 5)⟩,
  ⟨(some 35), none, .bin .lss (.t 34) (.c (.int .i64 0))⟩]
def r_utf8_DecodeLastRuneInString_14 : ICode := .region r_utf8_DecodeLastRuneInString_14_o [] [0, 4, 5, 35]
@[go_sem] theorem r_utf8_DecodeLastRuneInString_14_u {X : Kx} {K : List Kf} {s : St} : go X (.c r_utf8_DecodeLastRuneInString_14 :: K) s = goR X r_utf8_DecodeLastRuneInString_14_o [0, 4, 5, 35] K s := go_region _ _
@[go_sem] def r_utf8_DecodeLastRuneInString_15_o : List IOper := [
  ⟨(some 5), none, .asg (.c (.int .i64 0))⟩]
def r_utf8_DecodeLastRuneInString_15 : ICode := .region r_utf8_DecodeLastRuneInString_15_o [] [0, 4, 5]
@[go_sem] theorem r_utf8_DecodeLastRuneInString_15_u {X : Kx} {K : List Kf} {s : St} : go X (.c r_utf8_DecodeLastRuneInString_15 :: K) s = goR X r_utf8_DecodeLastRuneInString_15_o [0, 4, 5] K s := go_region _ _
@[go_sem] def r_utf8_DecodeLastRuneInString_16_o : List IOper := [
  ⟨(some 37), none, .mv (.t 0)⟩,
  ⟨(some 38), none, .mv (.t 5)⟩,
  ⟨(some 39), none, .mv (.t 4)⟩,
  ⟨(some 40), none, .sliceS (.t 37) (some (.t 38)) (some (.t 39))⟩,
  ⟨(some 41), none, .call false n_utf8_DecodeRuneInString [(.t 40)]⟩,
  ⟨(some 36), none, .mv (.t 41)⟩,
  ⟨(some 42), none, .ext (.t 36) 0⟩,
  ⟨(some 43), none, .ext (.t 36) 1⟩,
  ⟨(some 2), none, .asg (.t 42)⟩,
  ⟨(some 3), none, .asg (.t 43)⟩]
def r_utf8_DecodeLastRuneInString_16 : ICode := .region r_utf8_DecodeLastRuneInString_16_o [] [2, 3, 4, 5]
@[go_sem] theorem r_utf8_DecodeLastRuneInString_16_u {X : Kx} {K : List Kf} {s : St} : go X (.c r_utf8_DecodeLastRuneInString_16 :: K) s = goR X r_utf8_DecodeLastRuneInString_16_o [2, 3, 4, 5] K s := go_region _ _
@[go_sem] def r_utf8_DecodeLastRuneInString_17_o : List IOper := [
  ⟨(some 44), none, .mv (.t 5)⟩,
  ⟨(some 45), none, .mv (.t 3)⟩,
  ⟨(some 46), none, .bin .add (.t 44) (.t 45)⟩,
  ⟨(some 47), none, .mv (.t 4)⟩,
  ⟨(some 48), none, .bin .neq (.t 46) (.t 47)⟩]
def r_utf8_DecodeLastRuneInString_17 : ICode := .region r_utf8_DecodeLastRuneInString_17_o [] [2, 3, 48]
@[go_sem] theorem r_utf8_DecodeLastRuneInString_17_u {X : Kx} {K : List Kf} {s : St} : go X (.c r_utf8_DecodeLastRuneInString_17 :: K) s = goR X r_utf8_DecodeLastRuneInString_17_o [2, 3, 48] K s := go_region _ _
@[go_sem] def r_utf8_DecodeLastRuneInString_18_o : List IOper := [
  ⟨(some 2), none, .asg (.c (.int .i32 65533))⟩,
  ⟨(some 3), none, .asg (.c (.int .i64 1))⟩]
def r_utf8_DecodeLastRuneInString_18 : ICode := .region r_utf8_DecodeLastRuneInString_18_o [] [2, 3]
@[go_sem] theorem r_utf8_DecodeLastRuneInString_18_u {X : Kx} {K : List Kf} {s : St} : go X (.c r_utf8_DecodeLastRuneInString_18 :: K) s = goR X r_utf8_DecodeLastRuneInString_18_o [2, 3] K s := go_region _ _
@[go_sem] def r_utf8_DecodeLastRuneInString_19_o : List IOper := [
  ⟨(some 49), none, .mv (.t 2)⟩,
  ⟨(some 50), none, .mv (.t 3)⟩,
  ⟨(some 2), none, .asg (.t 49)⟩,
  ⟨(some 3), none, .asg (.t 50)⟩]
def r_utf8_DecodeLastRuneInString_19 : ICode := .region r_utf8_DecodeLastRuneInString_19_o [] [2, 3]
@[go_sem] theorem r_utf8_DecodeLastRuneInString_19_u {X : Kx} {K : List Kf} {s : St} : go X (.c r_utf8_DecodeLastRuneInString_19 :: K) s = goR X r_utf8_DecodeLastRuneInString_19_o [2, 3] K s := go_region _ _
def c_utf8_DecodeLastRuneInString : ICode := (.seq r_utf8_DecodeLastRuneInString_0 (.seq r_utf8_DecodeLastRuneInString_1 (.seq (.seq r_utf8_DecodeLastRuneInString_2 (.cond (.t 10) (.seq r_utf8_DecodeLastRuneInString_3 .ret) .skip)) (.seq r_utf8_DecodeLastRuneInString_4 (.seq r_utf8_DecodeLastRuneInString_5 (.seq (.seq r_utf8_DecodeLastRuneInString_6 (.cond (.t 18) (.seq r_utf8_DecodeLastRuneInString_7 .ret) .skip)) (.seq r_utf8_DecodeLastRuneInString_8 (.seq (.seq r_utf8_DecodeLastRuneInString_9 (.block 0 (.loop b_utf8_DecodeLastRuneInString_13))) (.seq (.seq r_utf8_DecodeLastRuneInString_14 (.cond (.t 35) r_utf8_DecodeLastRuneInString_15 .skip)) (.seq r_utf8_DecodeLastRuneInString_16 (.seq (.seq r_utf8_DecodeLastRuneInString_17 (.cond (.t 48) (.seq r_utf8_DecodeLastRuneInString_18 .ret) .skip)) (.seq r_utf8_DecodeLastRuneInString_19 .ret))))))))))))
def i_utf8_DecodeLastRuneInString : IFunc := ⟨1, [.t 2, .t 3], c_utf8_DecodeLastRuneInString⟩
def a_utf8_DecodeLastRuneInString : Advice := ⟨[], [(18, [2, 3]), (17, [2, 3]), (16, [2, 3, 48]), (15, [2, 3, 4, 5]), (14, [0, 4, 5]), (13, [0, 4, 5, 35]), (11, [0, 4, 5, 6]), (12, [0, 4, 5, 6, 33]), (10, [0, 4, 5, 6, 27]), (9, [0, 4, 5, 6]), (8, [0, 4, 5, 6]), (7, [2, 3]), (6, [0, 2, 4, 5, 18]), (5, [0, 2, 4, 5]), (4, [0, 4, 5]), (3, [2, 3]), (2, [0, 4, 10]), (1, [0, 4]), (0, [0])], [], []⟩
end Go.Proofs.YtpabdojnfiiaoaaDoor
