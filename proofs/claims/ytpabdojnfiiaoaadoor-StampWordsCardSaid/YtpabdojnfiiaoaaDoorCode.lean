import Derived.Test.YtpabdojnfiiaoaaDoorL8
import Derived.Test.YtpabdojnfiiaoaaDoorChecked
import Derived.Test.YtpabdojnfiiaoaaDoorCodeA
namespace Go.Proofs.YtpabdojnfiiaoaaDoor
open Go.Ev Go
/-! strings.trimRightUnicode -/
@[go_sem] def r_strings_trimRightUnicode_0_o : List IOper := [
  ⟨(some 4), none, .asg (.c (.str []))⟩]
def r_strings_trimRightUnicode_0 : ICode := .region r_strings_trimRightUnicode_0_o [] [0, 1]
@[go_sem] theorem r_strings_trimRightUnicode_0_u {X : Kx} {K : List Kf} {s : St} : go X (.c r_strings_trimRightUnicode_0 :: K) s = goR X r_strings_trimRightUnicode_0_o [0, 1] K s := go_region _ _
@[go_sem] def r_strings_trimRightUnicode_1_o : List IOper := [
  ⟨(some 7), none, .mv (.t 0)⟩,
  ⟨(some 8), none, .len true (.t 7)⟩,
  ⟨(some 9), none, .bin .gtr (.t 8) (.c (.int .i64 0))⟩]
def r_strings_trimRightUnicode_1 : ICode := .region r_strings_trimRightUnicode_1_o [] [0, 1, 9]
@[go_sem] theorem r_strings_trimRightUnicode_1_u {X : Kx} {K : List Kf} {s : St} : go X (.c r_strings_trimRightUnicode_1 :: K) s = goR X r_strings_trimRightUnicode_1_o [0, 1, 9] K s := go_region _ _
@[go_sem] def r_strings_trimRightUnicode_2_o : List IOper := [
  ⟨(some 10), none, .mv (.t 0)⟩,
  ⟨(some 11), none, .mv (.t 0)⟩,
  ⟨(some 12), none, .len true (.t 11)⟩,
  ⟨(some 13), none, .bin .sub (.t 12) (.c (.int .i64 1))⟩,
  ⟨(some 14), none, .idxS (.t 10) (.t 13)⟩,
  ⟨(some 15), none, .cvInt .i32 (.t 14)⟩,
  ⟨(some 5), none, .asg (.t 15)⟩,
  ⟨(some 6), none, .asg (.c (.int .i64 1))⟩]
def r_strings_trimRightUnicode_2 : ICode := .region r_strings_trimRightUnicode_2_o [] [0, 1, 5, 6]
@[go_sem] theorem r_strings_trimRightUnicode_2_u {X : Kx} {K : List Kf} {s : St} : go X (.c r_strings_trimRightUnicode_2 :: K) s = goR X r_strings_trimRightUnicode_2_o [0, 1, 5, 6] K s := go_region _ _
@[go_sem] def r_strings_trimRightUnicode_3_o : List IOper := [
  ⟨(some 16), none, .mv (.t 5)⟩,
  ⟨(some 17), none, .bin .geq (.t 16) (.c (.int .i32 128))⟩]
def r_strings_trimRightUnicode_3 : ICode := .region r_strings_trimRightUnicode_3_o [] [0, 1, 5, 6, 17]
@[go_sem] theorem r_strings_trimRightUnicode_3_u {X : Kx} {K : List Kf} {s : St} : go X (.c r_strings_trimRightUnicode_3 :: K) s = goR X r_strings_trimRightUnicode_3_o [0, 1, 5, 6, 17] K s := go_region _ _
@[go_sem] def r_strings_trimRightUnicode_4_o : List IOper := [
  ⟨(some 19), none, .mv (.t 0)⟩,
  ⟨(some 20), none, .call false n_utf8_DecodeLastRuneInString [(.t 19)]⟩,
  ⟨(some 18), none, .mv (.t 20)⟩,
  ⟨(some 21), none, .ext (.t 18) 0⟩,
  ⟨(some 22), none, .ext (.t 18) 1⟩,
  ⟨(some 5), none, .asg (.t 21)⟩,
  ⟨(some 6), none, .asg (.t 22)⟩]
def r_strings_trimRightUnicode_4 : ICode := .region r_strings_trimRightUnicode_4_o [] [0, 1, 5, 6]
@[go_sem] theorem r_strings_trimRightUnicode_4_u {X : Kx} {K : List Kf} {s : St} : go X (.c r_strings_trimRightUnicode_4 :: K) s = goR X r_strings_trimRightUnicode_4_o [0, 1, 5, 6] K s := go_region _ _
@[go_sem] def r_strings_trimRightUnicode_5_o : List IOper := [
  ⟨(some 23), none, .mv (.t 1)⟩,
  ⟨(some 24), none, .mv (.t 5)⟩,
  ⟨(some 25), none, .call false n_strings_ContainsRune [(.t 23), (.t 24)]⟩,
  ⟨(some 26), none, .un .not (.t 25)⟩]
def r_strings_trimRightUnicode_5 : ICode := .region r_strings_trimRightUnicode_5_o [] [0, 1, 6, 26]
@[go_sem] theorem r_strings_trimRightUnicode_5_u {X : Kx} {K : List Kf} {s : St} : go X (.c r_strings_trimRightUnicode_5 :: K) s = goR X r_strings_trimRightUnicode_5_o [0, 1, 6, 26] K s := go_region _ _
@[go_sem] def r_strings_trimRightUnicode_6_o : List IOper := [
  ⟨(some 27), none, .mv (.t 0)⟩,
  ⟨(some 28), none, .mv (.t 0)⟩,
  ⟨(some 29), none, .len true (.t 28)⟩,
  ⟨(some 30), none, .mv (.t 6)⟩,
  ⟨(some 31), none, .bin .sub (.t 29) (.t 30)⟩,
  ⟨(some 32), none, .sliceS (.t 27) none (some (.t 31))⟩,
  ⟨(some 0), none, .asg (.t 32)⟩]
def r_strings_trimRightUnicode_6 : ICode := .region r_strings_trimRightUnicode_6_o [] [0, 1]
@[go_sem] theorem r_strings_trimRightUnicode_6_u {X : Kx} {K : List Kf} {s : St} : go X (.c r_strings_trimRightUnicode_6 :: K) s = goR X r_strings_trimRightUnicode_6_o [0, 1] K s := go_region _ _
def b_strings_trimRightUnicode_7 : ICode := (.seq (.seq r_strings_trimRightUnicode_1 (.cond (.t 9) .skip (.exit 0))) (.block 1 (.seq r_strings_trimRightUnicode_2 (.seq (.seq r_strings_trimRightUnicode_3 (.cond (.t 17) r_strings_trimRightUnicode_4 .skip)) (.seq (.seq r_strings_trimRightUnicode_5 (.cond (.t 26) (.exit 0) .skip)) r_strings_trimRightUnicode_6)))))
@[go_sem] theorem b_strings_trimRightUnicode_7_u {X : Kx} {K : List Kf} {s : St} : go X (.c b_strings_trimRightUnicode_7 :: K) s = go X (.c (.seq (.seq r_strings_trimRightUnicode_1 (.cond (.t 9) .skip (.exit 0))) (.block 1 (.seq r_strings_trimRightUnicode_2 (.seq (.seq r_strings_trimRightUnicode_3 (.cond (.t 17) r_strings_trimRightUnicode_4 .skip)) (.seq (.seq r_strings_trimRightUnicode_5 (.cond (.t 26) (.exit 0) .skip)) r_strings_trimRightUnicode_6))))) :: K) s := rfl
@[go_sem] def r_strings_trimRightUnicode_8_o : List IOper := [
  ⟨(some 33), none, .mv (.t 0)⟩,
  ⟨(some 4), none, .asg (.t 33)⟩]
def r_strings_trimRightUnicode_8 : ICode := .region r_strings_trimRightUnicode_8_o [] [4]
@[go_sem] theorem r_strings_trimRightUnicode_8_u {X : Kx} {K : List Kf} {s : St} : go X (.c r_strings_trimRightUnicode_8 :: K) s = goR X r_strings_trimRightUnicode_8_o [4] K s := go_region _ _
def c_strings_trimRightUnicode : ICode := (.seq r_strings_trimRightUnicode_0 (.seq (.block 0 (.loop b_strings_trimRightUnicode_7)) (.seq r_strings_trimRightUnicode_8 .ret)))
def i_strings_trimRightUnicode : IFunc := ⟨2, [.t 4], c_strings_trimRightUnicode⟩
def a_strings_trimRightUnicode : Advice := ⟨[], [(7, [4]), (6, [0, 1]), (5, [0, 1, 6, 26]), (4, [0, 1, 5, 6]), (3, [0, 1, 5, 6, 17]), (2, [0, 1, 5, 6]), (1, [0, 1, 9]), (0, [0, 1])], [], []⟩
/-! (*strings.asciiSet).contains -/
@[go_sem] def r_Pstrings_asciiSet_contains_0_o : List IOper := [
  ⟨(some 4), none, .asg (.c (.bool false))⟩]
def r_Pstrings_asciiSet_contains_0 : ICode := .region r_Pstrings_asciiSet_contains_0_o [] [0, 1]
@[go_sem] theorem r_Pstrings_asciiSet_contains_0_u {X : Kx} {K : List Kf} {s : St} : go X (.c r_Pstrings_asciiSet_contains_0 :: K) s = goR X r_Pstrings_asciiSet_contains_0_o [0, 1] K s := go_region _ _
@[go_sem] def r_Pstrings_asciiSet_contains_1_o : List IOper := [
  ⟨(some 5), none, .mv (.t 0)⟩,
  ⟨(some 6), none, .mv (.t 1)⟩,
  ⟨(some 7), none, .nilck (.t 5)⟩,
  ⟨(some 8), none, .bad⟩,
  ⟨(some 9), none, .load none (.t 8)⟩,
  ⟨(some 4), none, .asg (.t 9)⟩]
def r_Pstrings_asciiSet_contains_1 : ICode := .region r_Pstrings_asciiSet_contains_1_o [] [4]
@[go_sem] theorem r_Pstrings_asciiSet_contains_1_u {X : Kx} {K : List Kf} {s : St} : go X (.c r_Pstrings_asciiSet_contains_1 :: K) s = goR X r_Pstrings_asciiSet_contains_1_o [4] K s := go_region _ _
def c_Pstrings_asciiSet_contains : ICode := (.seq r_Pstrings_asciiSet_contains_0 (.seq r_Pstrings_asciiSet_contains_1 .ret))
def i_Pstrings_asciiSet_contains : IFunc := ⟨2, [.t 4], c_Pstrings_asciiSet_contains⟩
def a_Pstrings_asciiSet_contains : Advice := ⟨[], [(1, [4]), (0, [0, 1])], [], []⟩
/-! strings.trimRightASCII -/
@[go_sem] def r_strings_trimRightASCII_0_o : List IOper := [
  ⟨(some 4), none, .asg (.c (.str []))⟩]
def r_strings_trimRightASCII_0 : ICode := .region r_strings_trimRightASCII_0_o [] [0, 1]
@[go_sem] theorem r_strings_trimRightASCII_0_u {X : Kx} {K : List Kf} {s : St} : go X (.c r_strings_trimRightASCII_0 :: K) s = goR X r_strings_trimRightASCII_0_o [0, 1] K s := go_region _ _
@[go_sem] def r_strings_trimRightASCII_1_o : List IOper := [
  ⟨(some 5), none, .mv (.t 0)⟩,
  ⟨(some 6), none, .len true (.t 5)⟩,
  ⟨(some 7), none, .bin .gtr (.t 6) (.c (.int .i64 0))⟩]
def r_strings_trimRightASCII_1 : ICode := .region r_strings_trimRightASCII_1_o [] [0, 1, 7]
@[go_sem] theorem r_strings_trimRightASCII_1_u {X : Kx} {K : List Kf} {s : St} : go X (.c r_strings_trimRightASCII_1 :: K) s = goR X r_strings_trimRightASCII_1_o [0, 1, 7] K s := go_region _ _
@[go_sem] def r_strings_trimRightASCII_2_o : List IOper := [
  ⟨(some 8), none, .mv (.t 1)⟩,
  ⟨(some 9), none, .mv (.t 0)⟩,
  ⟨(some 10), none, .mv (.t 0)⟩,
  ⟨(some 11), none, .len true (.t 10)⟩,
  ⟨(some 12), none, .bin .sub (.t 11) (.c (.int .i64 1))⟩,
  ⟨(some 13), none, .idxS (.t 9) (.t 12)⟩,
  ⟨(some 14), none, .call false n_Pstrings_asciiSet_contains [(.t 8), (.t 13)]⟩,
  ⟨(some 15), none, .un .not (.t 14)⟩]
def r_strings_trimRightASCII_2 : ICode := .region r_strings_trimRightASCII_2_o [] [0, 1, 15]
@[go_sem] theorem r_strings_trimRightASCII_2_u {X : Kx} {K : List Kf} {s : St} : go X (.c r_strings_trimRightASCII_2 :: K) s = goR X r_strings_trimRightASCII_2_o [0, 1, 15] K s := go_region _ _
@[go_sem] def r_strings_trimRightASCII_3_o : List IOper := [
  ⟨(some 16), none, .mv (.t 0)⟩,
  ⟨(some 17), none, .mv (.t 0)⟩,
  ⟨(some 18), none, .len true (.t 17)⟩,
  ⟨(some 19), none, .bin .sub (.t 18) (.c (.int .i64 1))⟩,
  ⟨(some 20), none, .sliceS (.t 16) none (some (.t 19))⟩,
  ⟨(some 0), none, .asg (.t 20)⟩]
def r_strings_trimRightASCII_3 : ICode := .region r_strings_trimRightASCII_3_o [] [0, 1]
@[go_sem] theorem r_strings_trimRightASCII_3_u {X : Kx} {K : List Kf} {s : St} : go X (.c r_strings_trimRightASCII_3 :: K) s = goR X r_strings_trimRightASCII_3_o [0, 1] K s := go_region _ _
def b_strings_trimRightASCII_4 : ICode := (.seq (.seq r_strings_trimRightASCII_1 (.cond (.t 7) .skip (.exit 0))) (.block 1 (.seq (.seq r_strings_trimRightASCII_2 (.cond (.t 15) (.exit 0) .skip)) r_strings_trimRightASCII_3)))
@[go_sem] theorem b_strings_trimRightASCII_4_u {X : Kx} {K : List Kf} {s : St} : go X (.c b_strings_trimRightASCII_4 :: K) s = go X (.c (.seq (.seq r_strings_trimRightASCII_1 (.cond (.t 7) .skip (.exit 0))) (.block 1 (.seq (.seq r_strings_trimRightASCII_2 (.cond (.t 15) (.exit 0) .skip)) r_strings_trimRightASCII_3))) :: K) s := rfl
@[go_sem] def r_strings_trimRightASCII_5_o : List IOper := [
  ⟨(some 21), none, .mv (.t 0)⟩,
  ⟨(some 4), none, .asg (.t 21)⟩]
def r_strings_trimRightASCII_5 : ICode := .region r_strings_trimRightASCII_5_o [] [4]
@[go_sem] theorem r_strings_trimRightASCII_5_u {X : Kx} {K : List Kf} {s : St} : go X (.c r_strings_trimRightASCII_5 :: K) s = goR X r_strings_trimRightASCII_5_o [4] K s := go_region _ _
def c_strings_trimRightASCII : ICode := (.seq r_strings_trimRightASCII_0 (.seq (.block 0 (.loop b_strings_trimRightASCII_4)) (.seq r_strings_trimRightASCII_5 .ret)))
def i_strings_trimRightASCII : IFunc := ⟨2, [.t 4], c_strings_trimRightASCII⟩
def a_strings_trimRightASCII : Advice := ⟨[], [(4, [4]), (3, [0, 1]), (2, [0, 1, 15]), (1, [0, 1, 7]), (0, [0, 1])], [], []⟩
/-! strings.makeASCIISet -/
@[go_sem] def r_strings_makeASCIISet_0_o : List IOper := [
  ⟨(some 2), none, .alloc [(.bool false), (.bool false), (.bool false), (.bool false), (.bool false), (.bool false), (.bool false), (.bool false), (.bool false), (.bool false), (.bool false), (.bool false), (.bool false), (.bool false), (.bool false), (.bool false), (.bool false), (.bool false), (.bool false), (.bool false), (.bool false), (.bool false), (.bool false), (.bool false), (.bool false), (.bool false), (.bool false), (.bool false), (.bool false), (.bool false), (.bool false), (.bool false), (.bool false), (.bool false), (.bool false), (.bool false), (.bool false), (.bool false), (.bool false), (.bool false), (.bool false), (.bool false), (.bool false), (.bool false), (.bool false), (.bool false), (.bool false), (.bool false), (.bool false), (.bool false), (.bool false), (.bool false), (.bool false), (.bool false), (.bool false), (.bool false), (.bool false), (.bool false), (.bool false), (.bool false), (.bool false), (.bool false), (.bool false), (.bool false), (.bool false), (.bool false), (.bool false), (.bool false), (.bool false), (.bool false), (.bool false), (.bool false), (.bool false), (.bool false), (.bool false), (.bool false), (.bool false), (.bool false), (.bool false), (.bool false), (.bool false), (.bool false), (.bool false), (.bool false), (.bool false), (.bool false), (.bool false), (.bool false), (.bool false), (.bool false), (.bool false), (.bool false), (.bool false), (.bool false), (.bool false), (.bool false), (.bool false), (.bool false), (.bool false), (.bool false), (.bool false), (.bool false), (.bool false), (.bool false), (.bool false), (.bool false), (.bool false), (.bool false), (.bool false), (.bool false), (.bool false), (.bool false), (.bool false), (.bool false), (.bool false), (.bool false), (.bool false), (.bool false), (.bool false), (.bool false), (.bool false), (.bool false), (.bool false), (.bool false), (.bool false), (.bool false), (.bool false), (.bool false), (.bool false), (.bool false), (.bool false), (.bool false), (.bool false), (.bool false), (.bool false), (.bool false), (.bool false), (.bool false), (.bool false), (.bool false), (.bool false), (.bool false), (.bool false), (.bool false), (.bool false), (.bool false), (.bool false), (.bool false), (.bool false), (.bool false), (.bool false), (.bool false), (.bool false), (.bool false), (.bool false), (.bool false), (.bool false), (.bool false), (.bool false), (.bool false), (.bool false), (.bool false), (.bool false), (.bool false), (.bool false), (.bool false), (.bool false), (.bool false), (.bool false), (.bool false), (.bool false), (.bool false), (.bool false), (.bool false), (.bool false), (.bool false), (.bool false), (.bool false), (.bool false), (.bool false), (.bool false), (.bool false), (.bool false), (.bool false), (.bool false), (.bool false), (.bool false), (.bool false), (.bool false), (.bool false), (.bool false), (.bool false), (.bool false), (.bool false), (.bool false), (.bool false), (.bool false), (.bool false), (.bool false), (.bool false), (.bool false), (.bool false), (.bool false), (.bool false), (.bool false), (.bool false), (.bool false), (.bool false), (.bool false), (.bool false), (.bool false), (.bool false), (.bool false), (.bool false), (.bool false), (.bool false), (.bool false), (.bool false), (.bool false), (.bool false), (.bool false), (.bool false), (.bool false), (.bool false), (.bool false), (.bool false), (.bool false), (.bool false), (.bool false), (.bool false), (.bool false), (.bool false), (.bool false), (.bool false), (.bool false), (.bool false), (.bool false), (.bool false), (.bool false), (.bool false), (.bool false), (.bool false), (.bool false), (.bool false), (.bool false), (.bool false), (.bool false), (.bool false), (.bool false), (.bool false), (.bool false), (.bool false), (.bool false), (.bool false), (.bool false), (.bool false)]⟩,
  ⟨(some 3), none, .asg (.c (.bool false))⟩]
def r_strings_makeASCIISet_0 : ICode := .region r_strings_makeASCIISet_0_o [] [0, 2]
@[go_sem] theorem r_strings_makeASCIISet_0_u {X : Kx} {K : List Kf} {s : St} : go X (.c r_strings_makeASCIISet_0 :: K) s = goR X r_strings_makeASCIISet_0_o [0, 2] K s := go_region _ _
@[go_sem] def r_strings_makeASCIISet_1_o : List IOper := [
  ⟨(some 4), none, .asg (.c (.int .i64 0))⟩]
def r_strings_makeASCIISet_1 : ICode := .region r_strings_makeASCIISet_1_o [] [0, 2, 4]
@[go_sem] theorem r_strings_makeASCIISet_1_u {X : Kx} {K : List Kf} {s : St} : go X (.c r_strings_makeASCIISet_1 :: K) s = goR X r_strings_makeASCIISet_1_o [0, 2, 4] K s := go_region _ _
@[go_sem] def r_strings_makeASCIISet_2_o : List IOper := [
  ⟨(some 6), none, .mv (.t 4)⟩,
  ⟨(some 7), none, .mv (.t 0)⟩,
  ⟨(some 8), none, .len true (.t 7)⟩,
  ⟨(some 9), none, .bin .lss (.t 6) (.t 8)⟩]
def r_strings_makeASCIISet_2 : ICode := .region r_strings_makeASCIISet_2_o [] [0, 2, 4, 9]
@[go_sem] theorem r_strings_makeASCIISet_2_u {X : Kx} {K : List Kf} {s : St} : go X (.c r_strings_makeASCIISet_2 :: K) s = goR X r_strings_makeASCIISet_2_o [0, 2, 4, 9] K s := go_region _ _
@[go_sem] def r_strings_makeASCIISet_3_o : List IOper := [
  ⟨(some 12), none, .mv (.t 0)⟩,
  ⟨(some 13), none, .mv (.t 4)⟩,
  ⟨(some 14), none, .idxS (.t 12) (.t 13)⟩,
  ⟨(some 5), none, .asg (.t 14)⟩]
def r_strings_makeASCIISet_3 : ICode := .region r_strings_makeASCIISet_3_o [] [0, 2, 4, 5]
@[go_sem] theorem r_strings_makeASCIISet_3_u {X : Kx} {K : List Kf} {s : St} : go X (.c r_strings_makeASCIISet_3 :: K) s = goR X r_strings_makeASCIISet_3_o [0, 2, 4, 5] K s := go_region _ _
@[go_sem] def r_strings_makeASCIISet_4_o : List IOper := [
  ⟨(some 15), none, .mv (.t 5)⟩,
  ⟨(some 16), none, .bin .geq (.t 15) (.c (.int .u8 128))⟩]
def r_strings_makeASCIISet_4 : ICode := .region r_strings_makeASCIISet_4_o [] [0, 2, 4, 5, 16]
@[go_sem] theorem r_strings_makeASCIISet_4_u {X : Kx} {K : List Kf} {s : St} : go X (.c r_strings_makeASCIISet_4 :: K) s = goR X r_strings_makeASCIISet_4_o [0, 2, 4, 5, 16] K s := go_region _ _
@[go_sem] def r_strings_makeASCIISet_5_o : List IOper := [
  ⟨(some 17), none, .load (some 256) (.t 2)⟩,
  ⟨none, none, .store 256 (.t 2) (.t 17)⟩,
  ⟨(some 3), none, .asg (.c (.bool false))⟩]
def r_strings_makeASCIISet_5 : ICode := .region r_strings_makeASCIISet_5_o [] [2, 3]
@[go_sem] theorem r_strings_makeASCIISet_5_u {X : Kx} {K : List Kf} {s : St} : go X (.c r_strings_makeASCIISet_5 :: K) s = goR X r_strings_makeASCIISet_5_o [2, 3] K s := go_region _ _
@[go_sem] def r_strings_makeASCIISet_6_o : List IOper := [
  ⟨(some 18), none, .mv (.t 5)⟩,
  ⟨(some 19), none, .bad⟩,
  ⟨none, none, .store 1 (.t 19) (.c (.bool true))⟩]
def r_strings_makeASCIISet_6 : ICode := .region r_strings_makeASCIISet_6_o [] [0, 2, 4]
@[go_sem] theorem r_strings_makeASCIISet_6_u {X : Kx} {K : List Kf} {s : St} : go X (.c r_strings_makeASCIISet_6 :: K) s = goR X r_strings_makeASCIISet_6_o [0, 2, 4] K s := go_region _ _
@[go_sem] def r_strings_makeASCIISet_7_o : List IOper := [
  ⟨(some 10), none, .mv (.t 4)⟩,
  ⟨(some 11), none, .bin .add (.t 10) (.c (.int .i64 1))⟩,
  ⟨(some 4), none, .asg (.t 11)⟩]
def r_strings_makeASCIISet_7 : ICode := .region r_strings_makeASCIISet_7_o [] [0, 2, 4]
@[go_sem] theorem r_strings_makeASCIISet_7_u {X : Kx} {K : List Kf} {s : St} : go X (.c r_strings_makeASCIISet_7 :: K) s = goR X r_strings_makeASCIISet_7_o [0, 2, 4] K s := go_region _ _
def b_strings_makeASCIISet_8 : ICode := (.seq (.seq r_strings_makeASCIISet_2 (.cond (.t 9) .skip (.exit 0))) (.seq (.block 1 (.seq r_strings_makeASCIISet_3 (.seq (.seq r_strings_makeASCIISet_4 (.cond (.t 16) (.seq r_strings_makeASCIISet_5 .ret) .skip)) r_strings_makeASCIISet_6))) r_strings_makeASCIISet_7))
@[go_sem] theorem b_strings_makeASCIISet_8_u {X : Kx} {K : List Kf} {s : St} : go X (.c b_strings_makeASCIISet_8 :: K) s = go X (.c (.seq (.seq r_strings_makeASCIISet_2 (.cond (.t 9) .skip (.exit 0))) (.seq (.block 1 (.seq r_strings_makeASCIISet_3 (.seq (.seq r_strings_makeASCIISet_4 (.cond (.t 16) (.seq r_strings_makeASCIISet_5 .ret) .skip)) r_strings_makeASCIISet_6))) r_strings_makeASCIISet_7)) :: K) s := rfl
@[go_sem] def r_strings_makeASCIISet_9_o : List IOper := [
  ⟨(some 20), none, .load (some 256) (.t 2)⟩,
  ⟨none, none, .store 256 (.t 2) (.t 20)⟩,
  ⟨(some 3), none, .asg (.c (.bool true))⟩]
def r_strings_makeASCIISet_9 : ICode := .region r_strings_makeASCIISet_9_o [] [2, 3]
@[go_sem] theorem r_strings_makeASCIISet_9_u {X : Kx} {K : List Kf} {s : St} : go X (.c r_strings_makeASCIISet_9 :: K) s = goR X r_strings_makeASCIISet_9_o [2, 3] K s := go_region _ _
def c_strings_makeASCIISet : ICode := (.seq r_strings_makeASCIISet_0 (.seq (.seq r_strings_makeASCIISet_1 (.block 0 (.loop b_strings_makeASCIISet_8))) (.seq r_strings_makeASCIISet_9 .ret)))
def i_strings_makeASCIISet : IFunc := ⟨1, [.cell 2 (some 256), .t 3], c_strings_makeASCIISet⟩
def a_strings_makeASCIISet : Advice := ⟨[], [(8, [2, 3]), (3, [0, 2, 4]), (7, [0, 2, 4]), (6, [2, 3]), (5, [0, 2, 4, 5, 16]), (4, [0, 2, 4, 5]), (2, [0, 2, 4, 9]), (1, [0, 2, 4]), (0, [0, 2])], [], []⟩
/-! strings.trimRightByte -/
@[go_sem] def r_strings_trimRightByte_0_o : List IOper := [
  ⟨(some 4), none, .asg (.c (.str []))⟩]
def r_strings_trimRightByte_0 : ICode := .region r_strings_trimRightByte_0_o [] [0, 1]
@[go_sem] theorem r_strings_trimRightByte_0_u {X : Kx} {K : List Kf} {s : St} : go X (.c r_strings_trimRightByte_0 :: K) s = goR X r_strings_trimRightByte_0_o [0, 1] K s := go_region _ _
@[go_sem] def r_strings_trimRightByte_1_o : List IOper := [
  ⟨(some 5), none, .mv (.t 0)⟩,
  ⟨(some 6), none, .len true (.t 5)⟩,
  ⟨(some 7), none, .bin .gtr (.t 6) (.c (.int .i64 0))⟩,
  ⟨(some 8), none, .mv (.t 7)⟩,
  ⟨(some 9), some (8, true), .mv (.t 0)⟩,
  ⟨(some 10), some (8, true), .mv (.t 0)⟩,
  ⟨(some 11), some (8, true), .len true (.t 10)⟩,
  ⟨(some 12), some (8, true), .bin .sub (.t 11) (.c (.int .i64 1))⟩,
  ⟨(some 13), some (8, true), .idxS (.t 9) (.t 12)⟩,
  ⟨(some 14), some (8, true), .mv (.t 1)⟩,
  ⟨(some 15), some (8, true), .bin .eql (.t 13) (.t 14)⟩,
  ⟨(some 16), none, .pick (.t 8) (.t 15) (.c (.bool false))⟩]
def r_strings_trimRightByte_1 : ICode := .region r_strings_trimRightByte_1_o [] [0, 1, 16]
@[go_sem] theorem r_strings_trimRightByte_1_u {X : Kx} {K : List Kf} {s : St} : go X (.c r_strings_trimRightByte_1 :: K) s = goR X r_strings_trimRightByte_1_o [0, 1, 16] K s := go_region _ _
@[go_sem] def r_strings_trimRightByte_2_o : List IOper := [
  ⟨(some 17), none, .mv (.t 0)⟩,
  ⟨(some 18), none, .mv (.t 0)⟩,
  ⟨(some 19), none, .len true (.t 18)⟩,
  ⟨(some 20), none, .bin .sub (.t 19) (.c (.int .i64 1))⟩,
  ⟨(some 21), none, .sliceS (.t 17) none (some (.t 20))⟩,
  ⟨(some 0), none, .asg (.t 21)⟩]
def r_strings_trimRightByte_2 : ICode := .region r_strings_trimRightByte_2_o [] [0, 1]
@[go_sem] theorem r_strings_trimRightByte_2_u {X : Kx} {K : List Kf} {s : St} : go X (.c r_strings_trimRightByte_2 :: K) s = goR X r_strings_trimRightByte_2_o [0, 1] K s := go_region _ _
def b_strings_trimRightByte_3 : ICode := (.seq (.seq r_strings_trimRightByte_1 (.cond (.t 16) .skip (.exit 0))) (.block 1 r_strings_trimRightByte_2))
@[go_sem] theorem b_strings_trimRightByte_3_u {X : Kx} {K : List Kf} {s : St} : go X (.c b_strings_trimRightByte_3 :: K) s = go X (.c (.seq (.seq r_strings_trimRightByte_1 (.cond (.t 16) .skip (.exit 0))) (.block 1 r_strings_trimRightByte_2)) :: K) s := rfl
@[go_sem] def r_strings_trimRightByte_4_o : List IOper := [
  ⟨(some 22), none, .mv (.t 0)⟩,
  ⟨(some 4), none, .asg (.t 22)⟩]
def r_strings_trimRightByte_4 : ICode := .region r_strings_trimRightByte_4_o [] [4]
@[go_sem] theorem r_strings_trimRightByte_4_u {X : Kx} {K : List Kf} {s : St} : go X (.c r_strings_trimRightByte_4 :: K) s = goR X r_strings_trimRightByte_4_o [4] K s := go_region _ _
def c_strings_trimRightByte : ICode := (.seq r_strings_trimRightByte_0 (.seq (.block 0 (.loop b_strings_trimRightByte_3)) (.seq r_strings_trimRightByte_4 .ret)))
def i_strings_trimRightByte : IFunc := ⟨2, [.t 4], c_strings_trimRightByte⟩
def a_strings_trimRightByte : Advice := ⟨[], [(3, [4]), (2, [0, 1]), (1, [0, 1, 16]), (0, [0, 1])], [], []⟩
/-! strings.TrimRight -/
@[go_sem] def r_strings_TrimRight_0_o : List IOper := [
  ⟨(some 4), none, .asg (.c (.str []))⟩]
def r_strings_TrimRight_0 : ICode := .region r_strings_TrimRight_0_o [] [0, 1]
@[go_sem] theorem r_strings_TrimRight_0_u {X : Kx} {K : List Kf} {s : St} : go X (.c r_strings_TrimRight_0 :: K) s = goR X r_strings_TrimRight_0_o [0, 1] K s := go_region _ _
@[go_sem] def r_strings_TrimRight_1_o : List IOper := [
  ⟨(some 7), none, .mv (.t 0)⟩,
  ⟨(some 8), none, .bin .eql (.t 7) (.c (.str []))⟩,
  ⟨(some 9), none, .mv (.t 8)⟩,
  ⟨(some 10), some (9, false), .mv (.t 1)⟩,
  ⟨(some 11), some (9, false), .bin .eql (.t 10) (.c (.str []))⟩,
  ⟨(some 12), none, .pick (.t 9) (.c (.bool true)) (.t 11)⟩]
def r_strings_TrimRight_1 : ICode := .region r_strings_TrimRight_1_o [] [0, 1, 12]
@[go_sem] theorem r_strings_TrimRight_1_u {X : Kx} {K : List Kf} {s : St} : go X (.c r_strings_TrimRight_1 :: K) s = goR X r_strings_TrimRight_1_o [0, 1, 12] K s := go_region _ _
@[go_sem] def r_strings_TrimRight_2_o : List IOper := [
  ⟨(some 13), none, .mv (.t 0)⟩,
  ⟨(some 4), none, .asg (.t 13)⟩]
def r_strings_TrimRight_2 : ICode := .region r_strings_TrimRight_2_o [] [4]
@[go_sem] theorem r_strings_TrimRight_2_u {X : Kx} {K : List Kf} {s : St} : go X (.c r_strings_TrimRight_2 :: K) s = goR X r_strings_TrimRight_2_o [4] K s := go_region _ _
@[go_sem] def r_strings_TrimRight_3_o : List IOper := [
  ⟨(some 14), none, .mv (.t 1)⟩,
  ⟨(some 15), none, .len true (.t 14)⟩,
  ⟨(some 16), none, .bin .eql (.t 15) (.c (.int .i64 1))⟩,
  ⟨(some 17), none, .mv (.t 16)⟩,
  ⟨(some 18), some (17, true), .mv (.t 1)⟩,
  ⟨(some 19), some (17, true), .idxS (.t 18) (.c (.int .i64 0))⟩,
  ⟨(some 20), some (17, true), .bin .lss (.t 19) (.c (.int .u8 128))⟩,
  ⟨(some 21), none, .pick (.t 17) (.t 20) (.c (.bool false))⟩]
def r_strings_TrimRight_3 : ICode := .region r_strings_TrimRight_3_o [] [0, 1, 21]
@[go_sem] theorem r_strings_TrimRight_3_u {X : Kx} {K : List Kf} {s : St} : go X (.c r_strings_TrimRight_3 :: K) s = goR X r_strings_TrimRight_3_o [0, 1, 21] K s := go_region _ _
@[go_sem] def r_strings_TrimRight_4_o : List IOper := [
  ⟨(some 22), none, .mv (.t 0)⟩,
  ⟨(some 23), none, .mv (.t 1)⟩,
  ⟨(some 24), none, .idxS (.t 23) (.c (.int .i64 0))⟩,
  ⟨(some 25), none, .call false n_strings_trimRightByte [(.t 22), (.t 24)]⟩,
  ⟨(some 4), none, .asg (.t 25)⟩]
def r_strings_TrimRight_4 : ICode := .region r_strings_TrimRight_4_o [] [4]
@[go_sem] theorem r_strings_TrimRight_4_u {X : Kx} {K : List Kf} {s : St} : go X (.c r_strings_TrimRight_4 :: K) s = goR X r_strings_TrimRight_4_o [4] K s := go_region _ _
@[go_sem] def r_strings_TrimRight_5_o : List IOper := [
  ⟨(some 27), none, .mv (.t 1)⟩,
  ⟨(some 28), none, .call false n_strings_makeASCIISet [(.t 27)]⟩,
  ⟨(some 26), none, .mv (.t 28)⟩,
  ⟨(some 29), none, .ext (.t 26) 0⟩,
  ⟨(some 30), none, .ext (.t 26) 1⟩,
  ⟨(some 5), none, .alloc [(.bool false), (.bool false), (.bool false), (.bool false), (.bool false), (.bool false), (.bool false), (.bool false), (.bool false), (.bool false), (.bool false), (.bool false), (.bool false), (.bool false), (.bool false), (.bool false), (.bool false), (.bool false), (.bool false), (.bool false), (.bool false), (.bool false), (.bool false), (.bool false), (.bool false), (.bool false), (.bool false), (.bool false), (.bool false), (.bool false), (.bool false), (.bool false), (.bool false), (.bool false), (.bool false), (.bool false), (.bool false), (.bool false), (.bool false), (.bool false), (.bool false), (.bool false), (.bool false), (.bool false), (.bool false), (.bool false), (.bool false), (.bool false), (.bool false), (.bool false), (.bool false), (.bool false), (.bool false), (.bool false), (.bool false), (.bool false), (.bool false), (.bool false), (.bool false), (.bool false), (.bool false), (.bool false), (.bool false), (.bool false), (.bool false), (.bool false), (.bool false), (.bool false), (.bool false), (.bool false), (.bool false), (.bool false), (.bool false), (.bool false), (.bool false), (.bool false), (.bool false), (.bool false), (.bool false), (.bool false), (.bool false), (.bool false), (.bool false), (.bool false), (.bool false), (.bool false), (.bool false), (.bool false), (.bool false), (.bool false), (.bool false), (.bool false), (.bool false), (.bool false), (.bool false), (.bool false), (.bool false), (.bool false), (.bool false), (.bool false), (.bool false), (.bool false), (.bool false), (.bool false), (.bool false), (.bool false), (.bool false), (.bool false), (.bool false), (.bool false), (.bool false), (.bool false), (.bool false), (.bool false), (.bool false), (.bool false), (.bool false), (.bool false), (.bool false), (.bool false), (.bool false), (.bool false), (.bool false), (.bool false), (.bool false), (.bool false), (.bool false), (.bool false), (.bool false), (.bool false), (.bool false), (.bool false), (.bool false), (.bool false), (.bool false), (.bool false), (.bool false), (.bool false), (.bool false), (.bool false), (.bool false), (.bool false), (.bool false), (.bool false), (.bool false), (.bool false), (.bool false), (.bool false), (.bool false), (.bool false), (.bool false), (.bool false), (.bool false), (.bool false), (.bool false), (.bool false), (.bool false), (.bool false), (.bool false), (.bool false), (.bool false), (.bool false), (.bool false), (.bool false), (.bool false), (.bool false), (.bool false), (.bool false), (.bool false), (.bool false), (.bool false), (.bool false), (.bool false), (.bool false), (.bool false), (.bool false), (.bool false), (.bool false), (.bool false), (.bool false), (.bool false), (.bool false), (.bool false), (.bool false), (.bool false), (.bool false), (.bool false), (.bool false), (.bool false), (.bool false), (.bool false), (.bool false), (.bool false), (.bool false), (.bool false), (.bool false), (.bool false), (.bool false), (.bool false), (.bool false), (.bool false), (.bool false), (.bool false), (.bool false), (.bool false), (.bool false), (.bool false), (.bool false), (.bool false), (.bool false), (.bool false), (.bool false), (.bool false), (.bool false), (.bool false), (.bool false), (.bool false), (.bool false), (.bool false), (.bool false), (.bool false), (.bool false), (.bool false), (.bool false), (.bool false), (.bool false), (.bool false), (.bool false), (.bool false), (.bool false), (.bool false), (.bool false), (.bool false), (.bool false), (.bool false), (.bool false), (.bool false), (.bool false), (.bool false), (.bool false), (.bool false), (.bool false), (.bool false), (.bool false), (.bool false), (.bool false), (.bool false), (.bool false), (.bool false), (.bool false), (.bool false), (.bool false), (.bool false), (.bool false), (.bool false), (.bool false)]⟩,
  ⟨none, none, .store 256 (.t 5) (.t 29)⟩,
  ⟨(some 6), none, .asg (.t 30)⟩]
def r_strings_TrimRight_5 : ICode := .region r_strings_TrimRight_5_o [] [0, 1, 5, 6]
@[go_sem] theorem r_strings_TrimRight_5_u {X : Kx} {K : List Kf} {s : St} : go X (.c r_strings_TrimRight_5 :: K) s = goR X r_strings_TrimRight_5_o [0, 1, 5, 6] K s := go_region _ _
@[go_sem] def r_strings_TrimRight_6_o : List IOper := [
  ⟨(some 31), none, .mv (.t 6)⟩]
def r_strings_TrimRight_6 : ICode := .region r_strings_TrimRight_6_o [] [0, 1, 5, 31]
@[go_sem] theorem r_strings_TrimRight_6_u {X : Kx} {K : List Kf} {s : St} : go X (.c r_strings_TrimRight_6 :: K) s = goR X r_strings_TrimRight_6_o [0, 1, 5, 31] K s := go_region _ _
@[go_sem] def r_strings_TrimRight_7_o : List IOper := [
  ⟨(some 32), none, .mv (.t 0)⟩,
  ⟨(some 33), none, .call false n_strings_trimRightASCII [(.t 32), (.t 5)]⟩,
  ⟨(some 4), none, .asg (.t 33)⟩]
def r_strings_TrimRight_7 : ICode := .region r_strings_TrimRight_7_o [] [4]
@[go_sem] theorem r_strings_TrimRight_7_u {X : Kx} {K : List Kf} {s : St} : go X (.c r_strings_TrimRight_7 :: K) s = goR X r_strings_TrimRight_7_o [4] K s := go_region _ _
@[go_sem] def r_strings_TrimRight_8_o : List IOper := [
  ⟨(some 34), none, .mv (.t 0)⟩,
  ⟨(some 35), none, .mv (.t 1)⟩,
  ⟨(some 36), none, .call false n_strings_trimRightUnicode [(.t 34), (.t 35)]⟩,
  ⟨(some 4), none, .asg (.t 36)⟩]
def r_strings_TrimRight_8 : ICode := .region r_strings_TrimRight_8_o [] [4]
@[go_sem] theorem r_strings_TrimRight_8_u {X : Kx} {K : List Kf} {s : St} : go X (.c r_strings_TrimRight_8 :: K) s = goR X r_strings_TrimRight_8_o [4] K s := go_region _ _
def c_strings_TrimRight : ICode := (.seq r_strings_TrimRight_0 (.seq (.seq r_strings_TrimRight_1 (.cond (.t 12) (.seq r_strings_TrimRight_2 .ret) .skip)) (.seq (.seq r_strings_TrimRight_3 (.cond (.t 21) (.seq r_strings_TrimRight_4 .ret) .skip)) (.seq (.seq r_strings_TrimRight_5 (.seq r_strings_TrimRight_6 (.cond (.t 31) (.seq r_strings_TrimRight_7 .ret) .skip))) (.seq r_strings_TrimRight_8 .ret)))))
def i_strings_TrimRight : IFunc := ⟨2, [.t 4], c_strings_TrimRight⟩
def a_strings_TrimRight : Advice := ⟨[], [(8, [4]), (7, [4]), (6, [0, 1, 5, 31]), (5, [0, 1, 5, 6]), (4, [4]), (3, [0, 1, 21]), (2, [4]), (1, [0, 1, 12]), (0, [0, 1])], [], []⟩
/-! ingot/stamp.pad -/
@[go_sem] def r_stamp_pad_0_o : List IOper := [
  ⟨(some 4), none, .asg (.c (.str []))⟩]
def r_stamp_pad_0 : ICode := .region r_stamp_pad_0_o [] [0, 1]
@[go_sem] theorem r_stamp_pad_0_u {X : Kx} {K : List Kf} {s : St} : go X (.c r_stamp_pad_0 :: K) s = goR X r_stamp_pad_0_o [0, 1] K s := go_region _ _
@[go_sem] def r_stamp_pad_1_o : List IOper := [
  ⟨(some 6), none, .mv (.t 0)⟩,
  ⟨(some 7), none, .call false n_strconv_Itoa [(.t 6)]⟩,
  ⟨(some 5), none, .asg (.t 7)⟩]
def r_stamp_pad_1 : ICode := .region r_stamp_pad_1_o [] [1, 5]
@[go_sem] theorem r_stamp_pad_1_u {X : Kx} {K : List Kf} {s : St} : go X (.c r_stamp_pad_1 :: K) s = goR X r_stamp_pad_1_o [1, 5] K s := go_region _ _
@[go_sem] def r_stamp_pad_2_o : List IOper := [
  ⟨(some 8), none, .mv (.t 1)⟩,
  ⟨(some 9), none, .mv (.t 5)⟩,
  ⟨(some 10), none, .len true (.t 9)⟩,
  ⟨(some 11), none, .bin .sub (.t 8) (.t 10)⟩,
  ⟨(some 12), none, .minmax true [(.t 11), (.c (.int .i64 0))]⟩,
  ⟨(some 13), none, .call false n_strings_Repeat [(.c (.str [48])), (.t 12)]⟩,
  ⟨(some 14), none, .mv (.t 5)⟩,
  ⟨(some 15), none, .bin .add (.t 13) (.t 14)⟩,
  ⟨(some 4), none, .asg (.t 15)⟩]
def r_stamp_pad_2 : ICode := .region r_stamp_pad_2_o [] [4]
@[go_sem] theorem r_stamp_pad_2_u {X : Kx} {K : List Kf} {s : St} : go X (.c r_stamp_pad_2 :: K) s = goR X r_stamp_pad_2_o [4] K s := go_region _ _
def c_stamp_pad : ICode := (.seq r_stamp_pad_0 (.seq r_stamp_pad_1 (.seq r_stamp_pad_2 .ret)))
def i_stamp_pad : IFunc := ⟨2, [.t 4], c_stamp_pad⟩
def a_stamp_pad : Advice := ⟨[], [(2, [4]), (1, [1, 5]), (0, [0, 1])], [], []⟩
/-! ingot/stamp.Text -/
@[go_sem] def r_stamp_Text_0_o : List IOper := [
  ⟨(some 4), none, .asg (.c (.str []))⟩]
def r_stamp_Text_0 : ICode := .region r_stamp_Text_0_o [] [0, 1]
@[go_sem] theorem r_stamp_Text_0_u {X : Kx} {K : List Kf} {s : St} : go X (.c r_stamp_Text_0 :: K) s = goR X r_stamp_Text_0_o [0, 1] K s := go_region _ _
@[go_sem] def r_stamp_Text_1_o : List IOper := [
  ⟨(some 11), none, .mv (.t 0)⟩,
  ⟨(some 12), none, .bin .quo (.t 11) (.c (.int .i64 86400))⟩,
  ⟨(some 5), none, .asg (.t 12)⟩]
def r_stamp_Text_1 : ICode := .region r_stamp_Text_1_o [] [0, 1, 5]
@[go_sem] theorem r_stamp_Text_1_u {X : Kx} {K : List Kf} {s : St} : go X (.c r_stamp_Text_1 :: K) s = goR X r_stamp_Text_1_o [0, 1, 5] K s := go_region _ _
@[go_sem] def r_stamp_Text_2_o : List IOper := [
  ⟨(some 13), none, .mv (.t 0)⟩,
  ⟨(some 14), none, .bin .rem (.t 13) (.c (.int .i64 86400))⟩,
  ⟨(some 6), none, .asg (.t 14)⟩]
def r_stamp_Text_2 : ICode := .region r_stamp_Text_2_o [] [1, 5, 6]
@[go_sem] theorem r_stamp_Text_2_u {X : Kx} {K : List Kf} {s : St} : go X (.c r_stamp_Text_2 :: K) s = goR X r_stamp_Text_2_o [1, 5, 6] K s := go_region _ _
@[go_sem] def r_stamp_Text_3_o : List IOper := [
  ⟨(some 15), none, .mv (.t 6)⟩,
  ⟨(some 16), none, .bin .lss (.t 15) (.c (.int .i64 0))⟩]
def r_stamp_Text_3 : ICode := .region r_stamp_Text_3_o [] [1, 5, 6, 16]
@[go_sem] theorem r_stamp_Text_3_u {X : Kx} {K : List Kf} {s : St} : go X (.c r_stamp_Text_3 :: K) s = goR X r_stamp_Text_3_o [1, 5, 6, 16] K s := go_region _ _
@[go_sem] def r_stamp_Text_4_o : List IOper := [
  ⟨(some 17), none, .mv (.t 5)⟩,
  ⟨(some 18), none, .bin .sub (.t 17) (.c (.int .i64 1))⟩,
  ⟨(some 19), none, .mv (.t 6)⟩,
  ⟨(some 20), none, .bin .add (.t 19) (.c (.int .i64 86400))⟩,
  ⟨(some 5), none, .asg (.t 18)⟩,
  ⟨(some 6), none, .asg (.t 20)⟩]
def r_stamp_Text_4 : ICode := .region r_stamp_Text_4_o [] [1, 5, 6]
@[go_sem] theorem r_stamp_Text_4_u {X : Kx} {K : List Kf} {s : St} : go X (.c r_stamp_Text_4 :: K) s = goR X r_stamp_Text_4_o [1, 5, 6] K s := go_region _ _
@[go_sem] def r_stamp_Text_5_o : List IOper := [
  ⟨(some 22), none, .mv (.t 5)⟩,
  ⟨(some 23), none, .call false n_stamp_Date [(.t 22)]⟩,
  ⟨(some 21), none, .mv (.t 23)⟩,
  ⟨(some 24), none, .ext (.t 21) 0⟩,
  ⟨(some 25), none, .ext (.t 21) 1⟩,
  ⟨(some 26), none, .ext (.t 21) 2⟩,
  ⟨(some 7), none, .asg (.t 24)⟩,
  ⟨(some 8), none, .asg (.t 25)⟩,
  ⟨(some 9), none, .asg (.t 26)⟩]
def r_stamp_Text_5 : ICode := .region r_stamp_Text_5_o [] [1, 6, 7, 8, 9]
@[go_sem] theorem r_stamp_Text_5_u {X : Kx} {K : List Kf} {s : St} : go X (.c r_stamp_Text_5 :: K) s = goR X r_stamp_Text_5_o [1, 6, 7, 8, 9] K s := go_region _ _
@[go_sem] def r_stamp_Text_6_o : List IOper := [
  ⟨(some 10), none, .asg (.c (.str []))⟩]
def r_stamp_Text_6 : ICode := .region r_stamp_Text_6_o [] [1, 6, 7, 8, 9, 10]
@[go_sem] theorem r_stamp_Text_6_u {X : Kx} {K : List Kf} {s : St} : go X (.c r_stamp_Text_6 :: K) s = goR X r_stamp_Text_6_o [1, 6, 7, 8, 9, 10] K s := go_region _ _
@[go_sem] def r_stamp_Text_7_o : List IOper := [
  ⟨(some 27), none, .mv (.t 7)⟩,
  ⟨(some 28), none, .bin .lss (.t 27) (.c (.int .i64 0))⟩]
def r_stamp_Text_7 : ICode := .region r_stamp_Text_7_o [] [1, 6, 7, 8, 9, 10, 28]
@[go_sem] theorem r_stamp_Text_7_u {X : Kx} {K : List Kf} {s : St} : go X (.c r_stamp_Text_7 :: K) s = goR X r_stamp_Text_7_o [1, 6, 7, 8, 9, 10, 28] K s := go_region _ _
@[go_sem] def r_stamp_Text_8_o : List IOper := [
  ⟨(some 29), none, .mv (.t 7)⟩,
  ⟨(some 30), none, .un .neg (.t 29)⟩,
  ⟨(some 10), none, .asg (.c (.str [45]))⟩,
  ⟨(some 7), none, .asg (.t 30)⟩]
def r_stamp_Text_8 : ICode := .region r_stamp_Text_8_o [] [1, 6, 7, 8, 9, 10]
@[go_sem] theorem r_stamp_Text_8_u {X : Kx} {K : List Kf} {s : St} : go X (.c r_stamp_Text_8 :: K) s = goR X r_stamp_Text_8_o [1, 6, 7, 8, 9, 10] K s := go_region _ _
@[go_sem] def r_stamp_Text_9_o : List IOper := [
  ⟨(some 31), none, .mv (.t 10)⟩,
  ⟨(some 32), none, .mv (.t 7)⟩,
  ⟨(some 33), none, .call false n_stamp_pad [(.t 32), (.c (.int .i64 4))]⟩,
  ⟨(some 34), none, .bin .add (.t 33) (.c (.str [45]))⟩,
  ⟨(some 35), none, .mv (.t 8)⟩,
  ⟨(some 36), none, .call false n_stamp_pad [(.t 35), (.c (.int .i64 2))]⟩,
  ⟨(some 37), none, .bin .add (.t 34) (.t 36)⟩,
  ⟨(some 38), none, .bin .add (.t 37) (.c (.str [45]))⟩,
  ⟨(some 39), none, .mv (.t 9)⟩,
  ⟨(some 40), none, .call false n_stamp_pad [(.t 39), (.c (.int .i64 2))]⟩,
  ⟨(some 41), none, .bin .add (.t 38) (.t 40)⟩,
  ⟨(some 42), none, .bin .add (.t 41) (.c (.str [32]))⟩,
  ⟨(some 43), none, .mv (.t 6)⟩,
  ⟨(some 44), none, .bin .quo (.t 43) (.c (.int .i64 3600))⟩,
  ⟨(some 45), none, .call false n_stamp_pad [(.t 44), (.c (.int .i64 2))]⟩,
  ⟨(some 46), none, .bin .add (.t 42) (.t 45)⟩,
  ⟨(some 47), none, .bin .add (.t 46) (.c (.str [58]))⟩,
  ⟨(some 48), none, .mv (.t 6)⟩,
  ⟨(some 49), none, .bin .quo (.t 48) (.c (.int .i64 60))⟩,
  ⟨(some 50), none, .bin .rem (.t 49) (.c (.int .i64 60))⟩,
  ⟨(some 51), none, .call false n_stamp_pad [(.t 50), (.c (.int .i64 2))]⟩,
  ⟨(some 52), none, .bin .add (.t 47) (.t 51)⟩,
  ⟨(some 53), none, .bin .add (.t 52) (.c (.str [58]))⟩,
  ⟨(some 54), none, .mv (.t 6)⟩,
  ⟨(some 55), none, .bin .rem (.t 54) (.c (.int .i64 60))⟩,
  ⟨(some 56), none, .call false n_stamp_pad [(.t 55), (.c (.int .i64 2))]⟩,
  ⟨(some 57), none, .bin .add (.t 53) (.t 56)⟩,
  ⟨(some 58), none, .bin .add (.t 31) (.t 57)⟩,
  ⟨(some 10), none, .asg (.t 58)⟩]
def r_stamp_Text_9 : ICode := .region r_stamp_Text_9_o [] [1, 10]
@[go_sem] theorem r_stamp_Text_9_u {X : Kx} {K : List Kf} {s : St} : go X (.c r_stamp_Text_9 :: K) s = goR X r_stamp_Text_9_o [1, 10] K s := go_region _ _
@[go_sem] def r_stamp_Text_10_o : List IOper := [
  ⟨(some 59), none, .mv (.t 1)⟩,
  ⟨(some 60), none, .bin .gtr (.t 59) (.c (.int .i64 0))⟩]
def r_stamp_Text_10 : ICode := .region r_stamp_Text_10_o [] [1, 10, 60]
@[go_sem] theorem r_stamp_Text_10_u {X : Kx} {K : List Kf} {s : St} : go X (.c r_stamp_Text_10 :: K) s = goR X r_stamp_Text_10_o [1, 10, 60] K s := go_region _ _
@[go_sem] def r_stamp_Text_11_o : List IOper := [
  ⟨(some 61), none, .mv (.t 10)⟩,
  ⟨(some 62), none, .mv (.t 1)⟩,
  ⟨(some 63), none, .call false n_stamp_pad [(.t 62), (.c (.int .i64 9))]⟩,
  ⟨(some 64), none, .call false n_strings_TrimRight [(.t 63), (.c (.str [48]))]⟩,
  ⟨(some 65), none, .bin .add (.c (.str [46])) (.t 64)⟩,
  ⟨(some 66), none, .bin .add (.t 61) (.t 65)⟩,
  ⟨(some 10), none, .asg (.t 66)⟩]
def r_stamp_Text_11 : ICode := .region r_stamp_Text_11_o [] [10]
@[go_sem] theorem r_stamp_Text_11_u {X : Kx} {K : List Kf} {s : St} : go X (.c r_stamp_Text_11 :: K) s = goR X r_stamp_Text_11_o [10] K s := go_region _ _
@[go_sem] def r_stamp_Text_12_o : List IOper := [
  ⟨(some 67), none, .mv (.t 10)⟩,
  ⟨(some 4), none, .asg (.t 67)⟩]
def r_stamp_Text_12 : ICode := .region r_stamp_Text_12_o [] [4]
@[go_sem] theorem r_stamp_Text_12_u {X : Kx} {K : List Kf} {s : St} : go X (.c r_stamp_Text_12 :: K) s = goR X r_stamp_Text_12_o [4] K s := go_region _ _
def c_stamp_Text : ICode := (.seq r_stamp_Text_0 (.seq r_stamp_Text_1 (.seq r_stamp_Text_2 (.seq (.seq r_stamp_Text_3 (.cond (.t 16) r_stamp_Text_4 .skip)) (.seq r_stamp_Text_5 (.seq r_stamp_Text_6 (.seq (.seq r_stamp_Text_7 (.cond (.t 28) r_stamp_Text_8 .skip)) (.seq r_stamp_Text_9 (.seq (.seq r_stamp_Text_10 (.cond (.t 60) r_stamp_Text_11 .skip)) (.seq r_stamp_Text_12 .ret))))))))))
def i_stamp_Text : IFunc := ⟨2, [.t 4], c_stamp_Text⟩
def a_stamp_Text : Advice := ⟨[], [(12, [4]), (11, [10]), (10, [1, 10, 60]), (9, [1, 10]), (8, [1, 6, 7, 8, 9, 10]), (7, [1, 6, 7, 8, 9, 10, 28]), (6, [1, 6, 7, 8, 9, 10]), (5, [1, 6, 7, 8, 9]), (4, [1, 5, 6]), (3, [1, 5, 6, 16]), (2, [1, 5, 6]), (1, [0, 1, 5]), (0, [0, 1])], [], []⟩
/-! ingot/stamp.Back -/
@[go_sem] def r_stamp_Back_0_o : List IOper := [
  ⟨(some 2), none, .asg (.c (.int .i64 0))⟩,
  ⟨(some 3), none, .asg (.c (.int .i64 0))⟩]
def r_stamp_Back_0 : ICode := .region r_stamp_Back_0_o [] [0]
@[go_sem] theorem r_stamp_Back_0_u {X : Kx} {K : List Kf} {s : St} : go X (.c r_stamp_Back_0 :: K) s = goR X r_stamp_Back_0_o [0] K s := go_region _ _
@[go_sem] def r_stamp_Back_1_o : List IOper := [
  ⟨(some 6), none, .mv (.t 0)⟩,
  ⟨(some 7), none, .bin .and (.t 6) (.c (.int .u64 7))⟩,
  ⟨(some 8), none, .cvInt .i64 (.t 7)⟩,
  ⟨(some 9), none, .mv (.t 0)⟩,
  ⟨(some 10), none, .bin .shr (.t 9) (.c (.int .u64 3))⟩,
  ⟨(some 4), none, .asg (.t 8)⟩,
  ⟨(some 5), none, .asg (.t 10)⟩]
def r_stamp_Back_1 : ICode := .region r_stamp_Back_1_o [] [4, 5]
@[go_sem] theorem r_stamp_Back_1_u {X : Kx} {K : List Kf} {s : St} : go X (.c r_stamp_Back_1 :: K) s = goR X r_stamp_Back_1_o [4, 5] K s := go_region _ _
@[go_sem] def r_stamp_Back_2_o : List IOper := [
  ⟨(some 11), none, .mv (.t 5)⟩,
  ⟨(some 12), none, .bin .gtr (.t 11) (.c (.int .u64 999999999))⟩]
def r_stamp_Back_2 : ICode := .region r_stamp_Back_2_o [] [4, 5, 12]
@[go_sem] theorem r_stamp_Back_2_u {X : Kx} {K : List Kf} {s : St} : go X (.c r_stamp_Back_2 :: K) s = goR X r_stamp_Back_2_o [4, 5, 12] K s := go_region _ _
@[go_sem] def r_stamp_Back_3_o : List IOper := [
  ⟨(some 2), none, .asg (.c (.int .i64 0))⟩,
  ⟨(some 3), none, .asg (.c (.int .i64 2))⟩]
def r_stamp_Back_3 : ICode := .region r_stamp_Back_3_o [] [2, 3]
@[go_sem] theorem r_stamp_Back_3_u {X : Kx} {K : List Kf} {s : St} : go X (.c r_stamp_Back_3 :: K) s = goR X r_stamp_Back_3_o [2, 3] K s := go_region _ _
@[go_sem] def r_stamp_Back_4_o : List IOper := [
  ⟨(some 13), none, .mv (.t 4)⟩,
  ⟨(some 14), none, .bin .gtr (.t 13) (.c (.int .i64 0))⟩]
def r_stamp_Back_4 : ICode := .region r_stamp_Back_4_o [] [4, 5, 14]
@[go_sem] theorem r_stamp_Back_4_u {X : Kx} {K : List Kf} {s : St} : go X (.c r_stamp_Back_4 :: K) s = goR X r_stamp_Back_4_o [4, 5, 14] K s := go_region _ _
@[go_sem] def r_stamp_Back_5_o : List IOper := [
  ⟨(some 15), none, .mv (.t 4)⟩,
  ⟨(some 16), none, .bin .add (.t 15) (.c (.int .i64 1))⟩,
  ⟨(some 17), none, .mv (.c (.int .i64 0))⟩]
def r_stamp_Back_5 : ICode := .region r_stamp_Back_5_o [] [5, 16, 17]
@[go_sem] theorem r_stamp_Back_5_u {X : Kx} {K : List Kf} {s : St} : go X (.c r_stamp_Back_5 :: K) s = goR X r_stamp_Back_5_o [5, 16, 17] K s := go_region _ _
@[go_sem] def r_stamp_Back_6_o : List IOper := [
  ⟨(some 18), none, .bin .lss (.t 17) (.t 16)⟩]
def r_stamp_Back_6 : ICode := .region r_stamp_Back_6_o [] [5, 16, 17, 18]
@[go_sem] theorem r_stamp_Back_6_u {X : Kx} {K : List Kf} {s : St} : go X (.c r_stamp_Back_6 :: K) s = goR X r_stamp_Back_6_o [5, 16, 17, 18] K s := go_region _ _
@[go_sem] def r_stamp_Back_7_o : List IOper := [
  ⟨(some 19), none, .mv (.t 5)⟩,
  ⟨(some 20), none, .bin .mul (.t 19) (.c (.int .u64 10))⟩,
  ⟨(some 5), none, .asg (.t 20)⟩]
def r_stamp_Back_7 : ICode := .region r_stamp_Back_7_o [] [5, 16, 17]
@[go_sem] theorem r_stamp_Back_7_u {X : Kx} {K : List Kf} {s : St} : go X (.c r_stamp_Back_7 :: K) s = goR X r_stamp_Back_7_o [5, 16, 17] K s := go_region _ _
@[go_sem] def r_stamp_Back_8_o : List IOper := [
  ⟨(some 21), none, .bin .add (.t 17) (.c (.int .i64 1))⟩,
  ⟨(some 17), none, .mv (.t 21)⟩]
def r_stamp_Back_8 : ICode := .region r_stamp_Back_8_o [] [5, 16, 17]
@[go_sem] theorem r_stamp_Back_8_u {X : Kx} {K : List Kf} {s : St} : go X (.c r_stamp_Back_8 :: K) s = goR X r_stamp_Back_8_o [5, 16, 17] K s := go_region _ _
def b_stamp_Back_9 : ICode := (.seq r_stamp_Back_6 (.seq (.cond (.t 18) .skip (.exit 0)) (.seq (.block 1 r_stamp_Back_7) r_stamp_Back_8)))
@[go_sem] theorem b_stamp_Back_9_u {X : Kx} {K : List Kf} {s : St} : go X (.c b_stamp_Back_9 :: K) s = go X (.c (.seq r_stamp_Back_6 (.seq (.cond (.t 18) .skip (.exit 0)) (.seq (.block 1 r_stamp_Back_7) r_stamp_Back_8))) :: K) s := rfl
@[go_sem] def r_stamp_Back_10_o : List IOper := [
  ⟨(some 22), none, .mv (.t 5)⟩,
  ⟨(some 23), none, .bin .gtr (.t 22) (.c (.int .u64 999999999))⟩]
def r_stamp_Back_10 : ICode := .region r_stamp_Back_10_o [] [5, 23]
@[go_sem] theorem r_stamp_Back_10_u {X : Kx} {K : List Kf} {s : St} : go X (.c r_stamp_Back_10 :: K) s = goR X r_stamp_Back_10_o [5, 23] K s := go_region _ _
@[go_sem] def r_stamp_Back_11_o : List IOper := [
  ⟨(some 2), none, .asg (.c (.int .i64 0))⟩,
  ⟨(some 3), none, .asg (.c (.int .i64 2))⟩]
def r_stamp_Back_11 : ICode := .region r_stamp_Back_11_o [] [2, 3]
@[go_sem] theorem r_stamp_Back_11_u {X : Kx} {K : List Kf} {s : St} : go X (.c r_stamp_Back_11 :: K) s = goR X r_stamp_Back_11_o [2, 3] K s := go_region _ _
@[go_sem] def r_stamp_Back_12_o : List IOper := [
  ⟨(some 24), none, .mv (.t 5)⟩,
  ⟨(some 25), none, .cvInt .i64 (.t 24)⟩,
  ⟨(some 2), none, .asg (.t 25)⟩,
  ⟨(some 3), none, .asg (.c (.int .i64 0))⟩]
def r_stamp_Back_12 : ICode := .region r_stamp_Back_12_o [] [2, 3]
@[go_sem] theorem r_stamp_Back_12_u {X : Kx} {K : List Kf} {s : St} : go X (.c r_stamp_Back_12 :: K) s = goR X r_stamp_Back_12_o [2, 3] K s := go_region _ _
def c_stamp_Back : ICode := (.seq r_stamp_Back_0 (.seq r_stamp_Back_1 (.seq (.seq r_stamp_Back_2 (.cond (.t 12) (.seq r_stamp_Back_3 .ret) .skip)) (.seq (.seq r_stamp_Back_4 (.cond (.t 14) (.seq r_stamp_Back_5 (.block 0 (.loop b_stamp_Back_9))) .skip)) (.seq (.seq r_stamp_Back_10 (.cond (.t 23) (.seq r_stamp_Back_11 .ret) .skip)) (.seq r_stamp_Back_12 .ret))))))
def i_stamp_Back : IFunc := ⟨1, [.t 2, .t 3], c_stamp_Back⟩
def a_stamp_Back : Advice := ⟨[], [(11, [2, 3]), (10, [2, 3]), (9, [5, 23]), (8, [5, 16, 17]), (7, [5, 16, 17]), (6, [5, 16, 17, 18]), (5, [5, 16, 17]), (4, [4, 5, 14]), (3, [2, 3]), (2, [4, 5, 12]), (1, [4, 5]), (0, [0])], [], []⟩
/-! ingot/stamp.Nano -/
@[go_sem] def r_stamp_Nano_0_o : List IOper := [
  ⟨(some 2), none, .asg (.c (.int .u64 0))⟩]
def r_stamp_Nano_0 : ICode := .region r_stamp_Nano_0_o [] [0]
@[go_sem] theorem r_stamp_Nano_0_u {X : Kx} {K : List Kf} {s : St} : go X (.c r_stamp_Nano_0 :: K) s = goR X r_stamp_Nano_0_o [0] K s := go_region _ _
@[go_sem] def r_stamp_Nano_1_o : List IOper := [
  ⟨(some 5), none, .mv (.t 0)⟩,
  ⟨(some 6), none, .bin .leq (.t 5) (.c (.int .i64 0))⟩]
def r_stamp_Nano_1 : ICode := .region r_stamp_Nano_1_o [] [0, 6]
@[go_sem] theorem r_stamp_Nano_1_u {X : Kx} {K : List Kf} {s : St} : go X (.c r_stamp_Nano_1 :: K) s = goR X r_stamp_Nano_1_o [0, 6] K s := go_region _ _
@[go_sem] def r_stamp_Nano_2_o : List IOper := [
  ⟨(some 2), none, .asg (.c (.int .u64 0))⟩]
def r_stamp_Nano_2 : ICode := .region r_stamp_Nano_2_o [] [2]
@[go_sem] theorem r_stamp_Nano_2_u {X : Kx} {K : List Kf} {s : St} : go X (.c r_stamp_Nano_2 :: K) s = goR X r_stamp_Nano_2_o [2] K s := go_region _ _
@[go_sem] def r_stamp_Nano_3_o : List IOper := [
  ⟨(some 3), none, .asg (.c (.int .i64 0))⟩]
def r_stamp_Nano_3 : ICode := .region r_stamp_Nano_3_o [] [0, 3]
@[go_sem] theorem r_stamp_Nano_3_u {X : Kx} {K : List Kf} {s : St} : go X (.c r_stamp_Nano_3 :: K) s = goR X r_stamp_Nano_3_o [0, 3] K s := go_region _ _
@[go_sem] def r_stamp_Nano_4_o : List IOper := [
  ⟨(some 7), none, .mv (.t 0)⟩,
  ⟨(some 4), none, .asg (.t 7)⟩]
def r_stamp_Nano_4 : ICode := .region r_stamp_Nano_4_o [] [0, 3, 4]
@[go_sem] theorem r_stamp_Nano_4_u {X : Kx} {K : List Kf} {s : St} : go X (.c r_stamp_Nano_4 :: K) s = goR X r_stamp_Nano_4_o [0, 3, 4] K s := go_region _ _
@[go_sem] def r_stamp_Nano_5_o : List IOper := [
  ⟨(some 8), none, .mv (.t 4)⟩,
  ⟨(some 9), none, .bin .rem (.t 8) (.c (.int .i64 10))⟩,
  ⟨(some 10), none, .bin .eql (.t 9) (.c (.int .i64 0))⟩,
  ⟨(some 11), none, .mv (.t 10)⟩,
  ⟨(some 12), some (11, true), .mv (.t 3)⟩,
  ⟨(some 13), some (11, true), .bin .lss (.t 12) (.c (.int .i64 8))⟩,
  ⟨(some 14), none, .pick (.t 11) (.t 13) (.c (.bool false))⟩]
def r_stamp_Nano_5 : ICode := .region r_stamp_Nano_5_o [] [0, 3, 4, 14]
@[go_sem] theorem r_stamp_Nano_5_u {X : Kx} {K : List Kf} {s : St} : go X (.c r_stamp_Nano_5 :: K) s = goR X r_stamp_Nano_5_o [0, 3, 4, 14] K s := go_region _ _
@[go_sem] def r_stamp_Nano_6_o : List IOper := [
  ⟨(some 17), none, .mv (.t 3)⟩,
  ⟨(some 18), none, .bin .add (.t 17) (.c (.int .i64 1))⟩,
  ⟨(some 3), none, .asg (.t 18)⟩]
def r_stamp_Nano_6 : ICode := .region r_stamp_Nano_6_o [] [0, 3, 4]
@[go_sem] theorem r_stamp_Nano_6_u {X : Kx} {K : List Kf} {s : St} : go X (.c r_stamp_Nano_6 :: K) s = goR X r_stamp_Nano_6_o [0, 3, 4] K s := go_region _ _
@[go_sem] def r_stamp_Nano_7_o : List IOper := [
  ⟨(some 15), none, .mv (.t 4)⟩,
  ⟨(some 16), none, .bin .quo (.t 15) (.c (.int .i64 10))⟩,
  ⟨(some 4), none, .asg (.t 16)⟩]
def r_stamp_Nano_7 : ICode := .region r_stamp_Nano_7_o [] [0, 3, 4]
@[go_sem] theorem r_stamp_Nano_7_u {X : Kx} {K : List Kf} {s : St} : go X (.c r_stamp_Nano_7 :: K) s = goR X r_stamp_Nano_7_o [0, 3, 4] K s := go_region _ _
def b_stamp_Nano_8 : ICode := (.seq (.seq r_stamp_Nano_5 (.cond (.t 14) .skip (.exit 0))) (.seq (.block 1 r_stamp_Nano_6) r_stamp_Nano_7))
@[go_sem] theorem b_stamp_Nano_8_u {X : Kx} {K : List Kf} {s : St} : go X (.c b_stamp_Nano_8 :: K) s = go X (.c (.seq (.seq r_stamp_Nano_5 (.cond (.t 14) .skip (.exit 0))) (.seq (.block 1 r_stamp_Nano_6) r_stamp_Nano_7)) :: K) s := rfl
@[go_sem] def r_stamp_Nano_9_o : List IOper := [
  ⟨(some 19), none, .mv (.t 3)⟩,
  ⟨(some 20), none, .bin .lss (.t 19) (.c (.int .i64 2))⟩]
def r_stamp_Nano_9 : ICode := .region r_stamp_Nano_9_o [] [0, 3, 20]
@[go_sem] theorem r_stamp_Nano_9_u {X : Kx} {K : List Kf} {s : St} : go X (.c r_stamp_Nano_9 :: K) s = goR X r_stamp_Nano_9_o [0, 3, 20] K s := go_region _ _
@[go_sem] def r_stamp_Nano_10_o : List IOper := [
  ⟨(some 21), none, .mv (.t 0)⟩,
  ⟨(some 22), none, .cvInt .u64 (.t 21)⟩,
  ⟨(some 23), none, .bin .shl (.t 22) (.c (.int .u64 3))⟩,
  ⟨(some 2), none, .asg (.t 23)⟩]
def r_stamp_Nano_10 : ICode := .region r_stamp_Nano_10_o [] [2]
@[go_sem] theorem r_stamp_Nano_10_u {X : Kx} {K : List Kf} {s : St} : go X (.c r_stamp_Nano_10 :: K) s = goR X r_stamp_Nano_10_o [2] K s := go_region _ _
@[go_sem] def r_stamp_Nano_11_o : List IOper := [
  ⟨(some 24), none, .mv (.t 3)⟩,
  ⟨(some 25), none, .mv (.c (.int .i64 0))⟩]
def r_stamp_Nano_11 : ICode := .region r_stamp_Nano_11_o [] [0, 3, 24, 25]
@[go_sem] theorem r_stamp_Nano_11_u {X : Kx} {K : List Kf} {s : St} : go X (.c r_stamp_Nano_11 :: K) s = goR X r_stamp_Nano_11_o [0, 3, 24, 25] K s := go_region _ _
@[go_sem] def r_stamp_Nano_12_o : List IOper := [
  ⟨(some 26), none, .bin .lss (.t 25) (.t 24)⟩]
def r_stamp_Nano_12 : ICode := .region r_stamp_Nano_12_o [] [0, 3, 24, 25, 26]
@[go_sem] theorem r_stamp_Nano_12_u {X : Kx} {K : List Kf} {s : St} : go X (.c r_stamp_Nano_12 :: K) s = goR X r_stamp_Nano_12_o [0, 3, 24, 25, 26] K s := go_region _ _
@[go_sem] def r_stamp_Nano_13_o : List IOper := [
  ⟨(some 27), none, .mv (.t 0)⟩,
  ⟨(some 28), none, .bin .quo (.t 27) (.c (.int .i64 10))⟩,
  ⟨(some 0), none, .asg (.t 28)⟩]
def r_stamp_Nano_13 : ICode := .region r_stamp_Nano_13_o [] [0, 3, 24, 25]
@[go_sem] theorem r_stamp_Nano_13_u {X : Kx} {K : List Kf} {s : St} : go X (.c r_stamp_Nano_13 :: K) s = goR X r_stamp_Nano_13_o [0, 3, 24, 25] K s := go_region _ _
@[go_sem] def r_stamp_Nano_14_o : List IOper := [
  ⟨(some 29), none, .bin .add (.t 25) (.c (.int .i64 1))⟩,
  ⟨(some 25), none, .mv (.t 29)⟩]
def r_stamp_Nano_14 : ICode := .region r_stamp_Nano_14_o [] [0, 3, 24, 25]
@[go_sem] theorem r_stamp_Nano_14_u {X : Kx} {K : List Kf} {s : St} : go X (.c r_stamp_Nano_14 :: K) s = goR X r_stamp_Nano_14_o [0, 3, 24, 25] K s := go_region _ _
def b_stamp_Nano_15 : ICode := (.seq r_stamp_Nano_12 (.seq (.cond (.t 26) .skip (.exit 2)) (.seq (.block 3 r_stamp_Nano_13) r_stamp_Nano_14)))
@[go_sem] theorem b_stamp_Nano_15_u {X : Kx} {K : List Kf} {s : St} : go X (.c b_stamp_Nano_15 :: K) s = go X (.c (.seq r_stamp_Nano_12 (.seq (.cond (.t 26) .skip (.exit 2)) (.seq (.block 3 r_stamp_Nano_13) r_stamp_Nano_14))) :: K) s := rfl
@[go_sem] def r_stamp_Nano_16_o : List IOper := [
  ⟨(some 30), none, .mv (.t 0)⟩,
  ⟨(some 31), none, .cvInt .u64 (.t 30)⟩,
  ⟨(some 32), none, .bin .shl (.t 31) (.c (.int .u64 3))⟩,
  ⟨(some 33), none, .mv (.t 3)⟩,
  ⟨(some 34), none, .bin .sub (.t 33) (.c (.int .i64 1))⟩,
  ⟨(some 35), none, .cvInt .u64 (.t 34)⟩,
  ⟨(some 36), none, .bin .or (.t 32) (.t 35)⟩,
  ⟨(some 2), none, .asg (.t 36)⟩]
def r_stamp_Nano_16 : ICode := .region r_stamp_Nano_16_o [] [2]
@[go_sem] theorem r_stamp_Nano_16_u {X : Kx} {K : List Kf} {s : St} : go X (.c r_stamp_Nano_16 :: K) s = goR X r_stamp_Nano_16_o [2] K s := go_region _ _
def c_stamp_Nano : ICode := (.seq r_stamp_Nano_0 (.seq (.seq r_stamp_Nano_1 (.cond (.t 6) (.seq r_stamp_Nano_2 .ret) .skip)) (.seq r_stamp_Nano_3 (.seq (.seq r_stamp_Nano_4 (.block 0 (.loop b_stamp_Nano_8))) (.seq (.seq r_stamp_Nano_9 (.cond (.t 20) (.seq r_stamp_Nano_10 .ret) .skip)) (.seq (.seq r_stamp_Nano_11 (.block 2 (.loop b_stamp_Nano_15))) (.seq r_stamp_Nano_16 .ret)))))))
def i_stamp_Nano : IFunc := ⟨1, [.t 2], c_stamp_Nano⟩
def a_stamp_Nano : Advice := ⟨[], [(14, [2]), (13, [0, 3, 24, 25]), (12, [0, 3, 24, 25]), (11, [0, 3, 24, 25, 26]), (10, [0, 3, 24, 25]), (9, [2]), (8, [0, 3, 20]), (6, [0, 3, 4]), (7, [0, 3, 4]), (5, [0, 3, 4, 14]), (4, [0, 3, 4]), (3, [0, 3]), (2, [2]), (1, [0, 6]), (0, [0])], [], []⟩
/-! ingot/stamp.Date -/
@[go_sem] def r_stamp_Date_0_o : List IOper := [
  ⟨(some 2), none, .asg (.c (.int .i64 0))⟩,
  ⟨(some 3), none, .asg (.c (.int .i64 0))⟩,
  ⟨(some 4), none, .asg (.c (.int .i64 0))⟩]
def r_stamp_Date_0 : ICode := .region r_stamp_Date_0_o [] [0]
@[go_sem] theorem r_stamp_Date_0_u {X : Kx} {K : List Kf} {s : St} : go X (.c r_stamp_Date_0 :: K) s = goR X r_stamp_Date_0_o [0] K s := go_region _ _
@[go_sem] def r_stamp_Date_1_o : List IOper := [
  ⟨(some 10), none, .mv (.t 0)⟩,
  ⟨(some 11), none, .bin .lss (.t 10) (.c (.int .i64 (-1073741824)))⟩,
  ⟨(some 12), none, .mv (.t 11)⟩,
  ⟨(some 13), some (12, false), .mv (.t 0)⟩,
  ⟨(some 14), some (12, false), .bin .gtr (.t 13) (.c (.int .i64 1073741824))⟩,
  ⟨(some 15), none, .pick (.t 12) (.c (.bool true)) (.t 14)⟩]
def r_stamp_Date_1 : ICode := .region r_stamp_Date_1_o [] [0, 15]
@[go_sem] theorem r_stamp_Date_1_u {X : Kx} {K : List Kf} {s : St} : go X (.c r_stamp_Date_1 :: K) s = goR X r_stamp_Date_1_o [0, 15] K s := go_region _ _
@[go_sem] def r_stamp_Date_2_o : List IOper := [
  ⟨(some 2), none, .asg (.c (.int .i64 0))⟩,
  ⟨(some 3), none, .asg (.c (.int .i64 0))⟩,
  ⟨(some 4), none, .asg (.c (.int .i64 0))⟩]
def r_stamp_Date_2 : ICode := .region r_stamp_Date_2_o [] [2, 3, 4]
@[go_sem] theorem r_stamp_Date_2_u {X : Kx} {K : List Kf} {s : St} : go X (.c r_stamp_Date_2 :: K) s = goR X r_stamp_Date_2_o [2, 3, 4] K s := go_region _ _
@[go_sem] def r_stamp_Date_3_o : List IOper := [
  ⟨(some 16), none, .mv (.t 0)⟩,
  ⟨(some 17), none, .bin .add (.t 16) (.c (.int .i64 719468))⟩,
  ⟨(some 5), none, .asg (.t 17)⟩]
def r_stamp_Date_3 : ICode := .region r_stamp_Date_3_o [] [5]
@[go_sem] theorem r_stamp_Date_3_u {X : Kx} {K : List Kf} {s : St} : go X (.c r_stamp_Date_3 :: K) s = goR X r_stamp_Date_3_o [5] K s := go_region _ _
@[go_sem] def r_stamp_Date_4_o : List IOper := [
  ⟨(some 18), none, .mv (.t 5)⟩,
  ⟨(some 19), none, .bin .quo (.t 18) (.c (.int .i64 146097))⟩,
  ⟨(some 6), none, .asg (.t 19)⟩]
def r_stamp_Date_4 : ICode := .region r_stamp_Date_4_o [] [5, 6]
@[go_sem] theorem r_stamp_Date_4_u {X : Kx} {K : List Kf} {s : St} : go X (.c r_stamp_Date_4 :: K) s = goR X r_stamp_Date_4_o [5, 6] K s := go_region _ _
@[go_sem] def r_stamp_Date_5_o : List IOper := [
  ⟨(some 20), none, .mv (.t 5)⟩,
  ⟨(some 21), none, .bin .rem (.t 20) (.c (.int .i64 146097))⟩,
  ⟨(some 22), none, .bin .lss (.t 21) (.c (.int .i64 0))⟩]
def r_stamp_Date_5 : ICode := .region r_stamp_Date_5_o [] [5, 6, 22]
@[go_sem] theorem r_stamp_Date_5_u {X : Kx} {K : List Kf} {s : St} : go X (.c r_stamp_Date_5 :: K) s = goR X r_stamp_Date_5_o [5, 6, 22] K s := go_region _ _
@[go_sem] def r_stamp_Date_6_o : List IOper := [
  ⟨(some 23), none, .mv (.t 6)⟩,
  ⟨(some 24), none, .bin .sub (.t 23) (.c (.int .i64 1))⟩,
  ⟨(some 6), none, .asg (.t 24)⟩]
def r_stamp_Date_6 : ICode := .region r_stamp_Date_6_o [] [5, 6]
@[go_sem] theorem r_stamp_Date_6_u {X : Kx} {K : List Kf} {s : St} : go X (.c r_stamp_Date_6 :: K) s = goR X r_stamp_Date_6_o [5, 6] K s := go_region _ _
@[go_sem] def r_stamp_Date_7_o : List IOper := [
  ⟨(some 25), none, .mv (.t 5)⟩,
  ⟨(some 26), none, .mv (.t 6)⟩,
  ⟨(some 27), none, .bin .mul (.t 26) (.c (.int .i64 146097))⟩,
  ⟨(some 28), none, .bin .sub (.t 25) (.t 27)⟩,
  ⟨(some 5), none, .asg (.t 28)⟩]
def r_stamp_Date_7 : ICode := .region r_stamp_Date_7_o [] [5, 6]
@[go_sem] theorem r_stamp_Date_7_u {X : Kx} {K : List Kf} {s : St} : go X (.c r_stamp_Date_7 :: K) s = goR X r_stamp_Date_7_o [5, 6] K s := go_region _ _
@[go_sem] def r_stamp_Date_8_o : List IOper := [
  ⟨(some 29), none, .mv (.t 5)⟩,
  ⟨(some 30), none, .mv (.t 5)⟩,
  ⟨(some 31), none, .bin .quo (.t 30) (.c (.int .i64 1460))⟩,
  ⟨(some 32), none, .bin .sub (.t 29) (.t 31)⟩,
  ⟨(some 33), none, .mv (.t 5)⟩,
  ⟨(some 34), none, .bin .quo (.t 33) (.c (.int .i64 36524))⟩,
  ⟨(some 35), none, .bin .add (.t 32) (.t 34)⟩,
  ⟨(some 36), none, .mv (.t 5)⟩,
  ⟨(some 37), none, .bin .quo (.t 36) (.c (.int .i64 146096))⟩,
  ⟨(some 38), none, .bin .sub (.t 35) (.t 37)⟩,
  ⟨(some 39), none, .bin .quo (.t 38) (.c (.int .i64 365))⟩,
  ⟨(some 7), none, .asg (.t 39)⟩]
def r_stamp_Date_8 : ICode := .region r_stamp_Date_8_o [] [5, 6, 7]
@[go_sem] theorem r_stamp_Date_8_u {X : Kx} {K : List Kf} {s : St} : go X (.c r_stamp_Date_8 :: K) s = goR X r_stamp_Date_8_o [5, 6, 7] K s := go_region _ _
@[go_sem] def r_stamp_Date_9_o : List IOper := [
  ⟨(some 40), none, .mv (.t 5)⟩,
  ⟨(some 41), none, .mv (.t 7)⟩,
  ⟨(some 42), none, .bin .mul (.c (.int .i64 365)) (.t 41)⟩,
  ⟨(some 43), none, .mv (.t 7)⟩,
  ⟨(some 44), none, .bin .quo (.t 43) (.c (.int .i64 4))⟩,
  ⟨(some 45), none, .bin .add (.t 42) (.t 44)⟩,
  ⟨(some 46), none, .mv (.t 7)⟩,
  ⟨(some 47), none, .bin .quo (.t 46) (.c (.int .i64 100))⟩,
  ⟨(some 48), none, .bin .sub (.t 45) (.t 47)⟩,
  ⟨(some 49), none, .bin .sub (.t 40) (.t 48)⟩,
  ⟨(some 8), none, .asg (.t 49)⟩]
def r_stamp_Date_9 : ICode := .region r_stamp_Date_9_o [] [6, 7, 8]
@[go_sem] theorem r_stamp_Date_9_u {X : Kx} {K : List Kf} {s : St} : go X (.c r_stamp_Date_9 :: K) s = goR X r_stamp_Date_9_o [6, 7, 8] K s := go_region _ _
@[go_sem] def r_stamp_Date_10_o : List IOper := [
  ⟨(some 50), none, .mv (.t 8)⟩,
  ⟨(some 51), none, .bin .mul (.c (.int .i64 5)) (.t 50)⟩,
  ⟨(some 52), none, .bin .add (.t 51) (.c (.int .i64 2))⟩,
  ⟨(some 53), none, .bin .quo (.t 52) (.c (.int .i64 153))⟩,
  ⟨(some 9), none, .asg (.t 53)⟩]
def r_stamp_Date_10 : ICode := .region r_stamp_Date_10_o [] [6, 7, 8, 9]
@[go_sem] theorem r_stamp_Date_10_u {X : Kx} {K : List Kf} {s : St} : go X (.c r_stamp_Date_10 :: K) s = goR X r_stamp_Date_10_o [6, 7, 8, 9] K s := go_region _ _
@[go_sem] def r_stamp_Date_11_o : List IOper := [
  ⟨(some 54), none, .mv (.t 8)⟩,
  ⟨(some 55), none, .mv (.t 9)⟩,
  ⟨(some 56), none, .bin .mul (.c (.int .i64 153)) (.t 55)⟩,
  ⟨(some 57), none, .bin .add (.t 56) (.c (.int .i64 2))⟩,
  ⟨(some 58), none, .bin .quo (.t 57) (.c (.int .i64 5))⟩,
  ⟨(some 59), none, .bin .sub (.t 54) (.t 58)⟩,
  ⟨(some 60), none, .bin .add (.t 59) (.c (.int .i64 1))⟩,
  ⟨(some 4), none, .asg (.t 60)⟩]
def r_stamp_Date_11 : ICode := .region r_stamp_Date_11_o [] [4, 6, 7, 9]
@[go_sem] theorem r_stamp_Date_11_u {X : Kx} {K : List Kf} {s : St} : go X (.c r_stamp_Date_11 :: K) s = goR X r_stamp_Date_11_o [4, 6, 7, 9] K s := go_region _ _
@[go_sem] def r_stamp_Date_12_o : List IOper := [
  ⟨(some 61), none, .mv (.t 9)⟩,
  ⟨(some 62), none, .bin .add (.t 61) (.c (.int .i64 2))⟩,
  ⟨(some 63), none, .bin .rem (.t 62) (.c (.int .i64 12))⟩,
  ⟨(some 64), none, .bin .add (.t 63) (.c (.int .i64 1))⟩,
  ⟨(some 3), none, .asg (.t 64)⟩]
def r_stamp_Date_12 : ICode := .region r_stamp_Date_12_o [] [3, 4, 6, 7]
@[go_sem] theorem r_stamp_Date_12_u {X : Kx} {K : List Kf} {s : St} : go X (.c r_stamp_Date_12 :: K) s = goR X r_stamp_Date_12_o [3, 4, 6, 7] K s := go_region _ _
@[go_sem] def r_stamp_Date_13_o : List IOper := [
  ⟨(some 65), none, .mv (.t 6)⟩,
  ⟨(some 66), none, .bin .mul (.t 65) (.c (.int .i64 400))⟩,
  ⟨(some 67), none, .mv (.t 7)⟩,
  ⟨(some 68), none, .bin .add (.t 66) (.t 67)⟩,
  ⟨(some 2), none, .asg (.t 68)⟩]
def r_stamp_Date_13 : ICode := .region r_stamp_Date_13_o [] [2, 3, 4]
@[go_sem] theorem r_stamp_Date_13_u {X : Kx} {K : List Kf} {s : St} : go X (.c r_stamp_Date_13 :: K) s = goR X r_stamp_Date_13_o [2, 3, 4] K s := go_region _ _
@[go_sem] def r_stamp_Date_14_o : List IOper := [
  ⟨(some 69), none, .mv (.t 3)⟩,
  ⟨(some 70), none, .bin .leq (.t 69) (.c (.int .i64 2))⟩]
def r_stamp_Date_14 : ICode := .region r_stamp_Date_14_o [] [2, 3, 4, 70]
@[go_sem] theorem r_stamp_Date_14_u {X : Kx} {K : List Kf} {s : St} : go X (.c r_stamp_Date_14 :: K) s = goR X r_stamp_Date_14_o [2, 3, 4, 70] K s := go_region _ _
@[go_sem] def r_stamp_Date_15_o : List IOper := [
  ⟨(some 71), none, .mv (.t 2)⟩,
  ⟨(some 72), none, .bin .add (.t 71) (.c (.int .i64 1))⟩,
  ⟨(some 2), none, .asg (.t 72)⟩]
def r_stamp_Date_15 : ICode := .region r_stamp_Date_15_o [] [2, 3, 4]
@[go_sem] theorem r_stamp_Date_15_u {X : Kx} {K : List Kf} {s : St} : go X (.c r_stamp_Date_15 :: K) s = goR X r_stamp_Date_15_o [2, 3, 4] K s := go_region _ _
@[go_sem] def r_stamp_Date_16_o : List IOper := [
  ⟨(some 73), none, .mv (.t 2)⟩,
  ⟨(some 74), none, .mv (.t 3)⟩,
  ⟨(some 75), none, .mv (.t 4)⟩,
  ⟨(some 2), none, .asg (.t 73)⟩,
  ⟨(some 3), none, .asg (.t 74)⟩,
  ⟨(some 4), none, .asg (.t 75)⟩]
def r_stamp_Date_16 : ICode := .region r_stamp_Date_16_o [] [2, 3, 4]
@[go_sem] theorem r_stamp_Date_16_u {X : Kx} {K : List Kf} {s : St} : go X (.c r_stamp_Date_16 :: K) s = goR X r_stamp_Date_16_o [2, 3, 4] K s := go_region _ _
def c_stamp_Date : ICode := (.seq r_stamp_Date_0 (.seq (.seq r_stamp_Date_1 (.cond (.t 15) (.seq r_stamp_Date_2 .ret) .skip)) (.seq r_stamp_Date_3 (.seq r_stamp_Date_4 (.seq (.seq r_stamp_Date_5 (.cond (.t 22) r_stamp_Date_6 .skip)) (.seq r_stamp_Date_7 (.seq r_stamp_Date_8 (.seq r_stamp_Date_9 (.seq r_stamp_Date_10 (.seq r_stamp_Date_11 (.seq r_stamp_Date_12 (.seq r_stamp_Date_13 (.seq (.seq r_stamp_Date_14 (.cond (.t 70) r_stamp_Date_15 .skip)) (.seq r_stamp_Date_16 .ret))))))))))))))
def i_stamp_Date : IFunc := ⟨1, [.t 2, .t 3, .t 4], c_stamp_Date⟩
def a_stamp_Date : Advice := ⟨[], [(16, [2, 3, 4]), (15, [2, 3, 4]), (14, [2, 3, 4, 70]), (13, [2, 3, 4]), (12, [3, 4, 6, 7]), (11, [4, 6, 7, 9]), (10, [6, 7, 8, 9]), (9, [6, 7, 8]), (8, [5, 6, 7]), (7, [5, 6]), (6, [5, 6]), (5, [5, 6, 22]), (4, [5, 6]), (3, [5]), (2, [2, 3, 4]), (1, [0, 15]), (0, [0])], [], []⟩
/-! ingot/stamp.Seconds -/
@[go_sem] def r_stamp_Seconds_0_o : List IOper := [
  ⟨(some 12), none, .asg (.c (.int .i64 0))⟩,
  ⟨(some 13), none, .asg (.c (.bool false))⟩]
def r_stamp_Seconds_0 : ICode := .region r_stamp_Seconds_0_o [] [0, 1, 2, 3, 4, 5]
@[go_sem] theorem r_stamp_Seconds_0_u {X : Kx} {K : List Kf} {s : St} : go X (.c r_stamp_Seconds_0 :: K) s = goR X r_stamp_Seconds_0_o [0, 1, 2, 3, 4, 5] K s := go_region _ _
@[go_sem] def r_stamp_Seconds_1_o : List IOper := [
  ⟨(some 17), none, .mv (.t 0)⟩,
  ⟨(some 18), none, .mv (.t 1)⟩,
  ⟨(some 19), none, .mv (.t 2)⟩,
  ⟨(some 20), none, .call false n_stamp_Days [(.t 17), (.t 18), (.t 19)]⟩,
  ⟨(some 16), none, .mv (.t 20)⟩,
  ⟨(some 21), none, .ext (.t 16) 0⟩,
  ⟨(some 22), none, .ext (.t 16) 1⟩,
  ⟨(some 14), none, .asg (.t 21)⟩,
  ⟨(some 15), none, .asg (.t 22)⟩]
def r_stamp_Seconds_1 : ICode := .region r_stamp_Seconds_1_o [] [3, 4, 5, 14, 15]
@[go_sem] theorem r_stamp_Seconds_1_u {X : Kx} {K : List Kf} {s : St} : go X (.c r_stamp_Seconds_1 :: K) s = goR X r_stamp_Seconds_1_o [3, 4, 5, 14, 15] K s := go_region _ _
@[go_sem] def r_stamp_Seconds_2_o : List IOper := [
  ⟨(some 23), none, .mv (.t 15)⟩,
  ⟨(some 24), none, .un .not (.t 23)⟩,
  ⟨(some 25), none, .mv (.t 24)⟩,
  ⟨(some 26), some (25, false), .mv (.t 3)⟩,
  ⟨(some 27), some (25, false), .bin .lss (.t 26) (.c (.int .i64 0))⟩,
  ⟨(some 28), none, .pick (.t 25) (.c (.bool true)) (.t 27)⟩,
  ⟨(some 29), none, .mv (.t 28)⟩,
  ⟨(some 30), some (29, false), .mv (.t 3)⟩,
  ⟨(some 31), some (29, false), .bin .gtr (.t 30) (.c (.int .i64 23))⟩,
  ⟨(some 32), none, .pick (.t 29) (.c (.bool true)) (.t 31)⟩,
  ⟨(some 33), none, .mv (.t 32)⟩,
  ⟨(some 34), some (33, false), .mv (.t 4)⟩,
  ⟨(some 35), some (33, false), .bin .lss (.t 34) (.c (.int .i64 0))⟩,
  ⟨(some 36), none, .pick (.t 33) (.c (.bool true)) (.t 35)⟩,
  ⟨(some 37), none, .mv (.t 36)⟩,
  ⟨(some 38), some (37, false), .mv (.t 4)⟩,
  ⟨(some 39), some (37, false), .bin .gtr (.t 38) (.c (.int .i64 59))⟩,
  ⟨(some 40), none, .pick (.t 37) (.c (.bool true)) (.t 39)⟩,
  ⟨(some 41), none, .mv (.t 40)⟩,
  ⟨(some 42), some (41, false), .mv (.t 5)⟩,
  ⟨(some 43), some (41, false), .bin .lss (.t 42) (.c (.int .i64 0))⟩,
  ⟨(some 44), none, .pick (.t 41) (.c (.bool true)) (.t 43)⟩,
  ⟨(some 45), none, .mv (.t 44)⟩,
  ⟨(some 46), some (45, false), .mv (.t 5)⟩,
  ⟨(some 47), some (45, false), .bin .gtr (.t 46) (.c (.int .i64 59))⟩,
  ⟨(some 48), none, .pick (.t 45) (.c (.bool true)) (.t 47)⟩]
def r_stamp_Seconds_2 : ICode := .region r_stamp_Seconds_2_o [] [3, 4, 5, 14, 48]
@[go_sem] theorem r_stamp_Seconds_2_u {X : Kx} {K : List Kf} {s : St} : go X (.c r_stamp_Seconds_2 :: K) s = goR X r_stamp_Seconds_2_o [3, 4, 5, 14, 48] K s := go_region _ _
@[go_sem] def r_stamp_Seconds_3_o : List IOper := [
  ⟨(some 12), none, .asg (.c (.int .i64 0))⟩,
  ⟨(some 13), none, .asg (.c (.bool false))⟩]
def r_stamp_Seconds_3 : ICode := .region r_stamp_Seconds_3_o [] [12, 13]
@[go_sem] theorem r_stamp_Seconds_3_u {X : Kx} {K : List Kf} {s : St} : go X (.c r_stamp_Seconds_3 :: K) s = goR X r_stamp_Seconds_3_o [12, 13] K s := go_region _ _
@[go_sem] def r_stamp_Seconds_4_o : List IOper := [
  ⟨(some 49), none, .mv (.t 14)⟩,
  ⟨(some 50), none, .bin .mul (.t 49) (.c (.int .i64 86400))⟩,
  ⟨(some 51), none, .mv (.t 3)⟩,
  ⟨(some 52), none, .bin .mul (.t 51) (.c (.int .i64 3600))⟩,
  ⟨(some 53), none, .mv (.t 4)⟩,
  ⟨(some 54), none, .bin .mul (.t 53) (.c (.int .i64 60))⟩,
  ⟨(some 55), none, .bin .add (.t 52) (.t 54)⟩,
  ⟨(some 56), none, .mv (.t 5)⟩,
  ⟨(some 57), none, .bin .add (.t 55) (.t 56)⟩,
  ⟨(some 58), none, .bin .add (.t 50) (.t 57)⟩,
  ⟨(some 12), none, .asg (.t 58)⟩,
  ⟨(some 13), none, .asg (.c (.bool true))⟩]
def r_stamp_Seconds_4 : ICode := .region r_stamp_Seconds_4_o [] [12, 13]
@[go_sem] theorem r_stamp_Seconds_4_u {X : Kx} {K : List Kf} {s : St} : go X (.c r_stamp_Seconds_4 :: K) s = goR X r_stamp_Seconds_4_o [12, 13] K s := go_region _ _
def c_stamp_Seconds : ICode := (.seq r_stamp_Seconds_0 (.seq r_stamp_Seconds_1 (.seq (.seq r_stamp_Seconds_2 (.cond (.t 48) (.seq r_stamp_Seconds_3 .ret) .skip)) (.seq r_stamp_Seconds_4 .ret))))
def i_stamp_Seconds : IFunc := ⟨6, [.t 12, .t 13], c_stamp_Seconds⟩
def a_stamp_Seconds : Advice := ⟨[], [(4, [12, 13]), (3, [12, 13]), (2, [3, 4, 5, 14, 48]), (1, [3, 4, 5, 14, 15]), (0, [0, 1, 2, 3, 4, 5])], [], []⟩
/-! ingot/stamp.leap -/
@[go_sem] def r_stamp_leap_0_o : List IOper := [
  ⟨(some 2), none, .asg (.c (.bool false))⟩]
def r_stamp_leap_0 : ICode := .region r_stamp_leap_0_o [] [0]
@[go_sem] theorem r_stamp_leap_0_u {X : Kx} {K : List Kf} {s : St} : go X (.c r_stamp_leap_0 :: K) s = goR X r_stamp_leap_0_o [0] K s := go_region _ _
@[go_sem] def r_stamp_leap_1_o : List IOper := [
  ⟨(some 3), none, .mv (.t 0)⟩,
  ⟨(some 4), none, .bin .rem (.t 3) (.c (.int .i64 4))⟩,
  ⟨(some 5), none, .bin .eql (.t 4) (.c (.int .i64 0))⟩,
  ⟨(some 6), none, .mv (.t 5)⟩,
  ⟨(some 7), some (6, true), .mv (.t 0)⟩,
  ⟨(some 8), some (6, true), .bin .rem (.t 7) (.c (.int .i64 100))⟩,
  ⟨(some 9), some (6, true), .bin .neq (.t 8) (.c (.int .i64 0))⟩,
  ⟨(some 10), some (6, true), .mv (.t 9)⟩,
  ⟨(some 11), some (10, false), .mv (.t 0)⟩,
  ⟨(some 12), some (10, false), .bin .rem (.t 11) (.c (.int .i64 400))⟩,
  ⟨(some 13), some (10, false), .bin .eql (.t 12) (.c (.int .i64 0))⟩,
  ⟨(some 14), some (6, true), .pick (.t 10) (.c (.bool true)) (.t 13)⟩,
  ⟨(some 15), none, .pick (.t 6) (.t 14) (.c (.bool false))⟩,
  ⟨(some 2), none, .asg (.t 15)⟩]
def r_stamp_leap_1 : ICode := .region r_stamp_leap_1_o [] [2]
@[go_sem] theorem r_stamp_leap_1_u {X : Kx} {K : List Kf} {s : St} : go X (.c r_stamp_leap_1 :: K) s = goR X r_stamp_leap_1_o [2] K s := go_region _ _
def c_stamp_leap : ICode := (.seq r_stamp_leap_0 (.seq r_stamp_leap_1 .ret))
def i_stamp_leap : IFunc := ⟨1, [.t 2], c_stamp_leap⟩
def a_stamp_leap : Advice := ⟨[], [(1, [2]), (0, [0])], [], []⟩
/-! ingot/stamp.length -/
@[go_sem] def r_stamp_length_0_o : List IOper := [
  ⟨(some 4), none, .asg (.c (.int .i64 0))⟩]
def r_stamp_length_0 : ICode := .region r_stamp_length_0_o [] [0, 1]
@[go_sem] theorem r_stamp_length_0_u {X : Kx} {K : List Kf} {s : St} : go X (.c r_stamp_length_0 :: K) s = goR X r_stamp_length_0_o [0, 1] K s := go_region _ _
@[go_sem] def r_stamp_length_1_o : List IOper := [
  ⟨(some 5), none, .asg (.c (.int .i64 0))⟩]
def r_stamp_length_1 : ICode := .region r_stamp_length_1_o [] [0, 1, 5]
@[go_sem] theorem r_stamp_length_1_u {X : Kx} {K : List Kf} {s : St} : go X (.c r_stamp_length_1 :: K) s = goR X r_stamp_length_1_o [0, 1, 5] K s := go_region _ _
@[go_sem] def r_stamp_length_2_o : List IOper := [
  ⟨(some 6), none, .mv (.t 1)⟩]
def r_stamp_length_2 : ICode := .region r_stamp_length_2_o [] [0, 5, 6]
@[go_sem] theorem r_stamp_length_2_u {X : Kx} {K : List Kf} {s : St} : go X (.c r_stamp_length_2 :: K) s = goR X r_stamp_length_2_o [0, 5, 6] K s := go_region _ _
@[go_sem] def r_stamp_length_3_o : List IOper := [
  ⟨(some 8), none, .bin .eql (.t 6) (.c (.int .i64 1))⟩,
  ⟨(some 7), none, .asg (.t 8)⟩]
def r_stamp_length_3 : ICode := .region r_stamp_length_3_o [] [0, 5, 6, 7]
@[go_sem] theorem r_stamp_length_3_u {X : Kx} {K : List Kf} {s : St} : go X (.c r_stamp_length_3 :: K) s = goR X r_stamp_length_3_o [0, 5, 6, 7] K s := go_region _ _
@[go_sem] def r_stamp_length_4_o : List IOper := [
  ⟨(some 9), none, .bin .eql (.t 6) (.c (.int .i64 3))⟩,
  ⟨(some 7), none, .asg (.t 9)⟩]
def r_stamp_length_4 : ICode := .region r_stamp_length_4_o [] [0, 5, 6, 7]
@[go_sem] theorem r_stamp_length_4_u {X : Kx} {K : List Kf} {s : St} : go X (.c r_stamp_length_4 :: K) s = goR X r_stamp_length_4_o [0, 5, 6, 7] K s := go_region _ _
@[go_sem] def r_stamp_length_5_o : List IOper := [
  ⟨(some 10), none, .bin .eql (.t 6) (.c (.int .i64 5))⟩,
  ⟨(some 7), none, .asg (.t 10)⟩]
def r_stamp_length_5 : ICode := .region r_stamp_length_5_o [] [0, 5, 6, 7]
@[go_sem] theorem r_stamp_length_5_u {X : Kx} {K : List Kf} {s : St} : go X (.c r_stamp_length_5 :: K) s = goR X r_stamp_length_5_o [0, 5, 6, 7] K s := go_region _ _
@[go_sem] def r_stamp_length_6_o : List IOper := [
  ⟨(some 11), none, .bin .eql (.t 6) (.c (.int .i64 7))⟩,
  ⟨(some 7), none, .asg (.t 11)⟩]
def r_stamp_length_6 : ICode := .region r_stamp_length_6_o [] [0, 5, 6, 7]
@[go_sem] theorem r_stamp_length_6_u {X : Kx} {K : List Kf} {s : St} : go X (.c r_stamp_length_6 :: K) s = goR X r_stamp_length_6_o [0, 5, 6, 7] K s := go_region _ _
@[go_sem] def r_stamp_length_7_o : List IOper := [
  ⟨(some 12), none, .bin .eql (.t 6) (.c (.int .i64 8))⟩,
  ⟨(some 7), none, .asg (.t 12)⟩]
def r_stamp_length_7 : ICode := .region r_stamp_length_7_o [] [0, 5, 6, 7]
@[go_sem] theorem r_stamp_length_7_u {X : Kx} {K : List Kf} {s : St} : go X (.c r_stamp_length_7 :: K) s = goR X r_stamp_length_7_o [0, 5, 6, 7] K s := go_region _ _
@[go_sem] def r_stamp_length_8_o : List IOper := [
  ⟨(some 13), none, .bin .eql (.t 6) (.c (.int .i64 10))⟩,
  ⟨(some 7), none, .asg (.t 13)⟩]
def r_stamp_length_8 : ICode := .region r_stamp_length_8_o [] [0, 5, 6, 7]
@[go_sem] theorem r_stamp_length_8_u {X : Kx} {K : List Kf} {s : St} : go X (.c r_stamp_length_8 :: K) s = goR X r_stamp_length_8_o [0, 5, 6, 7] K s := go_region _ _
@[go_sem] def r_stamp_length_9_o : List IOper := [
  ⟨(some 14), none, .bin .eql (.t 6) (.c (.int .i64 12))⟩,
  ⟨(some 7), none, .asg (.t 14)⟩]
def r_stamp_length_9 : ICode := .region r_stamp_length_9_o [] [0, 5, 6, 7]
@[go_sem] theorem r_stamp_length_9_u {X : Kx} {K : List Kf} {s : St} : go X (.c r_stamp_length_9 :: K) s = goR X r_stamp_length_9_o [0, 5, 6, 7] K s := go_region _ _
@[go_sem] def r_stamp_length_10_o : List IOper := [
  ⟨(some 16), none, .bin .eql (.t 6) (.c (.int .i64 4))⟩,
  ⟨(some 15), none, .asg (.t 16)⟩]
def r_stamp_length_10 : ICode := .region r_stamp_length_10_o [] [0, 5, 6, 15]
@[go_sem] theorem r_stamp_length_10_u {X : Kx} {K : List Kf} {s : St} : go X (.c r_stamp_length_10 :: K) s = goR X r_stamp_length_10_o [0, 5, 6, 15] K s := go_region _ _
@[go_sem] def r_stamp_length_11_o : List IOper := [
  ⟨(some 17), none, .bin .eql (.t 6) (.c (.int .i64 6))⟩,
  ⟨(some 15), none, .asg (.t 17)⟩]
def r_stamp_length_11 : ICode := .region r_stamp_length_11_o [] [0, 5, 6, 15]
@[go_sem] theorem r_stamp_length_11_u {X : Kx} {K : List Kf} {s : St} : go X (.c r_stamp_length_11 :: K) s = goR X r_stamp_length_11_o [0, 5, 6, 15] K s := go_region _ _
@[go_sem] def r_stamp_length_12_o : List IOper := [
  ⟨(some 18), none, .bin .eql (.t 6) (.c (.int .i64 9))⟩,
  ⟨(some 15), none, .asg (.t 18)⟩]
def r_stamp_length_12 : ICode := .region r_stamp_length_12_o [] [0, 5, 6, 15]
@[go_sem] theorem r_stamp_length_12_u {X : Kx} {K : List Kf} {s : St} : go X (.c r_stamp_length_12 :: K) s = goR X r_stamp_length_12_o [0, 5, 6, 15] K s := go_region _ _
@[go_sem] def r_stamp_length_13_o : List IOper := [
  ⟨(some 19), none, .bin .eql (.t 6) (.c (.int .i64 11))⟩,
  ⟨(some 15), none, .asg (.t 19)⟩]
def r_stamp_length_13 : ICode := .region r_stamp_length_13_o [] [0, 5, 6, 15]
@[go_sem] theorem r_stamp_length_13_u {X : Kx} {K : List Kf} {s : St} : go X (.c r_stamp_length_13 :: K) s = goR X r_stamp_length_13_o [0, 5, 6, 15] K s := go_region _ _
@[go_sem] def r_stamp_length_14_o : List IOper := [
  ⟨(some 21), none, .bin .eql (.t 6) (.c (.int .i64 2))⟩,
  ⟨(some 20), none, .asg (.t 21)⟩]
def r_stamp_length_14 : ICode := .region r_stamp_length_14_o [] [0, 5, 20]
@[go_sem] theorem r_stamp_length_14_u {X : Kx} {K : List Kf} {s : St} : go X (.c r_stamp_length_14 :: K) s = goR X r_stamp_length_14_o [0, 5, 20] K s := go_region _ _
@[go_sem] def r_stamp_length_15_o : List IOper := [
  ⟨(some 22), none, .mv (.t 5)⟩,
  ⟨(some 23), none, .bin .add (.t 22) (.c (.int .i64 1))⟩,
  ⟨(some 5), none, .asg (.t 23)⟩]
def r_stamp_length_15 : ICode := .region r_stamp_length_15_o [] [5]
@[go_sem] theorem r_stamp_length_15_u {X : Kx} {K : List Kf} {s : St} : go X (.c r_stamp_length_15 :: K) s = goR X r_stamp_length_15_o [5] K s := go_region _ _
@[go_sem] def r_stamp_length_16_o : List IOper := [
  ⟨(some 24), none, .mv (.t 5)⟩,
  ⟨(some 25), none, .bin .add (.t 24) (.c (.int .i64 30))⟩,
  ⟨(some 5), none, .asg (.t 25)⟩]
def r_stamp_length_16 : ICode := .region r_stamp_length_16_o [] [5]
@[go_sem] theorem r_stamp_length_16_u {X : Kx} {K : List Kf} {s : St} : go X (.c r_stamp_length_16 :: K) s = goR X r_stamp_length_16_o [5] K s := go_region _ _
@[go_sem] def r_stamp_length_17_o : List IOper := [
  ⟨(some 5), none, .asg (.c (.int .i64 28))⟩]
def r_stamp_length_17 : ICode := .region r_stamp_length_17_o [] [0, 5]
@[go_sem] theorem r_stamp_length_17_u {X : Kx} {K : List Kf} {s : St} : go X (.c r_stamp_length_17 :: K) s = goR X r_stamp_length_17_o [0, 5] K s := go_region _ _
@[go_sem] def r_stamp_length_18_o : List IOper := [
  ⟨(some 26), none, .mv (.t 0)⟩,
  ⟨(some 27), none, .call false n_stamp_leap [(.t 26)]⟩]
def r_stamp_length_18 : ICode := .region r_stamp_length_18_o [] [5, 27]
@[go_sem] theorem r_stamp_length_18_u {X : Kx} {K : List Kf} {s : St} : go X (.c r_stamp_length_18 :: K) s = goR X r_stamp_length_18_o [5, 27] K s := go_region _ _
@[go_sem] def r_stamp_length_19_o : List IOper := [
  ⟨(some 28), none, .mv (.t 5)⟩,
  ⟨(some 29), none, .bin .add (.t 28) (.c (.int .i64 1))⟩,
  ⟨(some 5), none, .asg (.t 29)⟩]
def r_stamp_length_19 : ICode := .region r_stamp_length_19_o [] [5]
@[go_sem] theorem r_stamp_length_19_u {X : Kx} {K : List Kf} {s : St} : go X (.c r_stamp_length_19 :: K) s = goR X r_stamp_length_19_o [5] K s := go_region _ _
@[go_sem] def r_stamp_length_20_o : List IOper := [
  ⟨(some 30), none, .mv (.t 5)⟩,
  ⟨(some 4), none, .asg (.t 30)⟩]
def r_stamp_length_20 : ICode := .region r_stamp_length_20_o [] [4]
@[go_sem] theorem r_stamp_length_20_u {X : Kx} {K : List Kf} {s : St} : go X (.c r_stamp_length_20 :: K) s = goR X r_stamp_length_20_o [4] K s := go_region _ _
def c_stamp_length : ICode := (.seq r_stamp_length_0 (.seq r_stamp_length_1 (.seq (.seq r_stamp_length_2 (.block 0 (.seq (.block 3 (.seq (.block 2 (.seq (.block 1 (.seq (.seq (.seq (.seq r_stamp_length_3 (.cond (.t 7) .skip (.seq r_stamp_length_4 (.cond (.t 7) .skip (.seq r_stamp_length_5 (.cond (.t 7) .skip (.seq r_stamp_length_6 (.cond (.t 7) .skip (.seq r_stamp_length_7 (.cond (.t 7) .skip (.seq r_stamp_length_8 (.cond (.t 7) .skip r_stamp_length_9)))))))))))) (.cond (.t 7) (.exit 1) .skip)) (.seq (.seq (.seq r_stamp_length_10 (.cond (.t 15) .skip (.seq r_stamp_length_11 (.cond (.t 15) .skip (.seq r_stamp_length_12 (.cond (.t 15) .skip r_stamp_length_13)))))) (.cond (.t 15) (.exit 2) .skip)) (.seq r_stamp_length_14 (.cond (.t 20) (.exit 3) .skip)))) (.exit 0))) r_stamp_length_15)) (.seq r_stamp_length_16 (.exit 0)))) (.seq (.seq r_stamp_length_17 (.seq r_stamp_length_18 (.cond (.t 27) r_stamp_length_19 .skip))) (.exit 0))))) (.seq r_stamp_length_20 .ret))))
def i_stamp_length : IFunc := ⟨2, [.t 4], c_stamp_length⟩
def a_stamp_length : Advice := ⟨[], [(20, [4]), (19, [5]), (18, [5, 27]), (17, [0, 5]), (16, [5]), (15, [5]), (14, [0, 5, 20]), (13, [0, 5, 6, 15]), (12, [0, 5, 6, 15]), (11, [0, 5, 6, 15]), (10, [0, 5, 6, 15]), (9, [0, 5, 6, 7]), (8, [0, 5, 6, 7]), (7, [0, 5, 6, 7]), (6, [0, 5, 6, 7]), (5, [0, 5, 6, 7]), (4, [0, 5, 6, 7]), (3, [0, 5, 6, 7]), (2, [0, 5, 6]), (1, [0, 1, 5]), (0, [0, 1])], [], []⟩
/-! ingot/stamp.Days -/
@[go_sem] def r_stamp_Days_0_o : List IOper := [
  ⟨(some 6), none, .asg (.c (.int .i64 0))⟩,
  ⟨(some 7), none, .asg (.c (.bool false))⟩]
def r_stamp_Days_0 : ICode := .region r_stamp_Days_0_o [] [0, 1, 2]
@[go_sem] theorem r_stamp_Days_0_u {X : Kx} {K : List Kf} {s : St} : go X (.c r_stamp_Days_0 :: K) s = goR X r_stamp_Days_0_o [0, 1, 2] K s := go_region _ _
@[go_sem] def r_stamp_Days_1_o : List IOper := [
  ⟨(some 12), none, .mv (.t 0)⟩,
  ⟨(some 13), none, .bin .lss (.t 12) (.c (.int .i64 (-9999)))⟩,
  ⟨(some 14), none, .mv (.t 13)⟩,
  ⟨(some 15), some (14, false), .mv (.t 0)⟩,
  ⟨(some 16), some (14, false), .bin .gtr (.t 15) (.c (.int .i64 9999))⟩,
  ⟨(some 17), none, .pick (.t 14) (.c (.bool true)) (.t 16)⟩,
  ⟨(some 18), none, .mv (.t 17)⟩,
  ⟨(some 19), some (18, false), .mv (.t 2)⟩,
  ⟨(some 20), some (18, false), .bin .lss (.t 19) (.c (.int .i64 1))⟩,
  ⟨(some 21), none, .pick (.t 18) (.c (.bool true)) (.t 20)⟩,
  ⟨(some 22), none, .mv (.t 21)⟩,
  ⟨(some 23), some (22, false), .mv (.t 2)⟩,
  ⟨(some 24), some (22, false), .mv (.t 0)⟩,
  ⟨(some 25), some (22, false), .mv (.t 1)⟩,
  ⟨(some 26), some (22, false), .call false n_stamp_length [(.t 24), (.t 25)]⟩,
  ⟨(some 27), some (22, false), .bin .gtr (.t 23) (.t 26)⟩,
  ⟨(some 28), none, .pick (.t 22) (.c (.bool true)) (.t 27)⟩]
def r_stamp_Days_1 : ICode := .region r_stamp_Days_1_o [] [0, 1, 2, 28]
@[go_sem] theorem r_stamp_Days_1_u {X : Kx} {K : List Kf} {s : St} : go X (.c r_stamp_Days_1 :: K) s = goR X r_stamp_Days_1_o [0, 1, 2, 28] K s := go_region _ _
@[go_sem] def r_stamp_Days_2_o : List IOper := [
  ⟨(some 6), none, .asg (.c (.int .i64 0))⟩,
  ⟨(some 7), none, .asg (.c (.bool false))⟩]
def r_stamp_Days_2 : ICode := .region r_stamp_Days_2_o [] [6, 7]
@[go_sem] theorem r_stamp_Days_2_u {X : Kx} {K : List Kf} {s : St} : go X (.c r_stamp_Days_2 :: K) s = goR X r_stamp_Days_2_o [6, 7] K s := go_region _ _
@[go_sem] def r_stamp_Days_3_o : List IOper := [
  ⟨(some 29), none, .mv (.t 0)⟩,
  ⟨(some 8), none, .asg (.t 29)⟩]
def r_stamp_Days_3 : ICode := .region r_stamp_Days_3_o [] [1, 2, 8]
@[go_sem] theorem r_stamp_Days_3_u {X : Kx} {K : List Kf} {s : St} : go X (.c r_stamp_Days_3 :: K) s = goR X r_stamp_Days_3_o [1, 2, 8] K s := go_region _ _
@[go_sem] def r_stamp_Days_4_o : List IOper := [
  ⟨(some 30), none, .mv (.t 1)⟩,
  ⟨(some 31), none, .bin .leq (.t 30) (.c (.int .i64 2))⟩]
def r_stamp_Days_4 : ICode := .region r_stamp_Days_4_o [] [1, 2, 8, 31]
@[go_sem] theorem r_stamp_Days_4_u {X : Kx} {K : List Kf} {s : St} : go X (.c r_stamp_Days_4 :: K) s = goR X r_stamp_Days_4_o [1, 2, 8, 31] K s := go_region _ _
@[go_sem] def r_stamp_Days_5_o : List IOper := [
  ⟨(some 32), none, .mv (.t 8)⟩,
  ⟨(some 33), none, .bin .sub (.t 32) (.c (.int .i64 1))⟩,
  ⟨(some 8), none, .asg (.t 33)⟩]
def r_stamp_Days_5 : ICode := .region r_stamp_Days_5_o [] [1, 2, 8]
@[go_sem] theorem r_stamp_Days_5_u {X : Kx} {K : List Kf} {s : St} : go X (.c r_stamp_Days_5 :: K) s = goR X r_stamp_Days_5_o [1, 2, 8] K s := go_region _ _
@[go_sem] def r_stamp_Days_6_o : List IOper := [
  ⟨(some 34), none, .mv (.t 8)⟩,
  ⟨(some 35), none, .bin .add (.t 34) (.c (.int .i64 10000))⟩,
  ⟨(some 8), none, .asg (.t 35)⟩]
def r_stamp_Days_6 : ICode := .region r_stamp_Days_6_o [] [1, 2, 8]
@[go_sem] theorem r_stamp_Days_6_u {X : Kx} {K : List Kf} {s : St} : go X (.c r_stamp_Days_6 :: K) s = goR X r_stamp_Days_6_o [1, 2, 8] K s := go_region _ _
@[go_sem] def r_stamp_Days_7_o : List IOper := [
  ⟨(some 36), none, .mv (.t 8)⟩,
  ⟨(some 37), none, .bin .quo (.t 36) (.c (.int .i64 400))⟩,
  ⟨(some 9), none, .asg (.t 37)⟩]
def r_stamp_Days_7 : ICode := .region r_stamp_Days_7_o [] [1, 2, 8, 9]
@[go_sem] theorem r_stamp_Days_7_u {X : Kx} {K : List Kf} {s : St} : go X (.c r_stamp_Days_7 :: K) s = goR X r_stamp_Days_7_o [1, 2, 8, 9] K s := go_region _ _
@[go_sem] def r_stamp_Days_8_o : List IOper := [
  ⟨(some 38), none, .mv (.t 8)⟩,
  ⟨(some 39), none, .bin .rem (.t 38) (.c (.int .i64 400))⟩,
  ⟨(some 10), none, .asg (.t 39)⟩]
def r_stamp_Days_8 : ICode := .region r_stamp_Days_8_o [] [1, 2, 9, 10]
@[go_sem] theorem r_stamp_Days_8_u {X : Kx} {K : List Kf} {s : St} : go X (.c r_stamp_Days_8 :: K) s = goR X r_stamp_Days_8_o [1, 2, 9, 10] K s := go_region _ _
@[go_sem] def r_stamp_Days_9_o : List IOper := [
  ⟨(some 40), none, .mv (.t 1)⟩,
  ⟨(some 41), none, .bin .add (.t 40) (.c (.int .i64 9))⟩,
  ⟨(some 42), none, .bin .rem (.t 41) (.c (.int .i64 12))⟩,
  ⟨(some 43), none, .bin .mul (.c (.int .i64 153)) (.t 42)⟩,
  ⟨(some 44), none, .bin .add (.t 43) (.c (.int .i64 2))⟩,
  ⟨(some 45), none, .bin .quo (.t 44) (.c (.int .i64 5))⟩,
  ⟨(some 46), none, .mv (.t 2)⟩,
  ⟨(some 47), none, .bin .add (.t 45) (.t 46)⟩,
  ⟨(some 48), none, .bin .sub (.t 47) (.c (.int .i64 1))⟩,
  ⟨(some 11), none, .asg (.t 48)⟩]
def r_stamp_Days_9 : ICode := .region r_stamp_Days_9_o [] [9, 10, 11]
@[go_sem] theorem r_stamp_Days_9_u {X : Kx} {K : List Kf} {s : St} : go X (.c r_stamp_Days_9 :: K) s = goR X r_stamp_Days_9_o [9, 10, 11] K s := go_region _ _
@[go_sem] def r_stamp_Days_10_o : List IOper := [
  ⟨(some 49), none, .mv (.t 9)⟩,
  ⟨(some 50), none, .bin .sub (.t 49) (.c (.int .i64 25))⟩,
  ⟨(some 51), none, .bin .mul (.t 50) (.c (.int .i64 146097))⟩,
  ⟨(some 52), none, .mv (.t 10)⟩,
  ⟨(some 53), none, .bin .mul (.t 52) (.c (.int .i64 365))⟩,
  ⟨(some 54), none, .bin .add (.t 51) (.t 53)⟩,
  ⟨(some 55), none, .mv (.t 10)⟩,
  ⟨(some 56), none, .bin .quo (.t 55) (.c (.int .i64 4))⟩,
  ⟨(some 57), none, .bin .add (.t 54) (.t 56)⟩,
  ⟨(some 58), none, .mv (.t 10)⟩,
  ⟨(some 59), none, .bin .quo (.t 58) (.c (.int .i64 100))⟩,
  ⟨(some 60), none, .bin .sub (.t 57) (.t 59)⟩,
  ⟨(some 61), none, .mv (.t 11)⟩,
  ⟨(some 62), none, .bin .add (.t 60) (.t 61)⟩,
  ⟨(some 63), none, .bin .sub (.t 62) (.c (.int .i64 719468))⟩,
  ⟨(some 6), none, .asg (.t 63)⟩,
  ⟨(some 7), none, .asg (.c (.bool true))⟩]
def r_stamp_Days_10 : ICode := .region r_stamp_Days_10_o [] [6, 7]
@[go_sem] theorem r_stamp_Days_10_u {X : Kx} {K : List Kf} {s : St} : go X (.c r_stamp_Days_10 :: K) s = goR X r_stamp_Days_10_o [6, 7] K s := go_region _ _
def c_stamp_Days : ICode := (.seq r_stamp_Days_0 (.seq (.seq r_stamp_Days_1 (.cond (.t 28) (.seq r_stamp_Days_2 .ret) .skip)) (.seq r_stamp_Days_3 (.seq (.seq r_stamp_Days_4 (.cond (.t 31) r_stamp_Days_5 .skip)) (.seq r_stamp_Days_6 (.seq r_stamp_Days_7 (.seq r_stamp_Days_8 (.seq r_stamp_Days_9 (.seq r_stamp_Days_10 .ret)))))))))
def i_stamp_Days : IFunc := ⟨3, [.t 6, .t 7], c_stamp_Days⟩
def a_stamp_Days : Advice := ⟨[], [(10, [6, 7]), (9, [9, 10, 11]), (8, [1, 2, 9, 10]), (7, [1, 2, 8, 9]), (6, [1, 2, 8]), (5, [1, 2, 8]), (4, [1, 2, 8, 31]), (3, [1, 2, 8]), (2, [6, 7]), (1, [0, 1, 2, 28]), (0, [0, 1, 2])], [], []⟩
/-! ingot/ingotlaw12.known -/
@[go_sem] def r_ingotlaw12_known_0_o : List IOper := [
  ⟨(some 0), none, .asg (.c (.bool false))⟩]
def r_ingotlaw12_known_0 : ICode := .region r_ingotlaw12_known_0_o [] []
@[go_sem] theorem r_ingotlaw12_known_0_u {X : Kx} {K : List Kf} {s : St} : go X (.c r_ingotlaw12_known_0 :: K) s = goR X r_ingotlaw12_known_0_o [] K s := go_region _ _
@[go_sem] def r_ingotlaw12_known_1_o : List IOper := [
  ⟨(some 13), none, .call false n_stamp_Days [(.c (.int .i64 2015)), (.c (.int .i64 1)), (.c (.int .i64 1))]⟩,
  ⟨(some 12), none, .mv (.t 13)⟩,
  ⟨(some 14), none, .ext (.t 12) 0⟩,
  ⟨(some 15), none, .ext (.t 12) 1⟩,
  ⟨(some 1), none, .asg (.t 14)⟩,
  ⟨(some 2), none, .asg (.t 15)⟩]
def r_ingotlaw12_known_1 : ICode := .region r_ingotlaw12_known_1_o [] [1, 2]
@[go_sem] theorem r_ingotlaw12_known_1_u {X : Kx} {K : List Kf} {s : St} : go X (.c r_ingotlaw12_known_1 :: K) s = goR X r_ingotlaw12_known_1_o [1, 2] K s := go_region _ _
@[go_sem] def r_ingotlaw12_known_2_o : List IOper := [
  ⟨(some 17), none, .call false n_stamp_Seconds [(.c (.int .i64 2015)), (.c (.int .i64 1)), (.c (.int .i64 1)), (.c (.int .i64 0)), (.c (.int .i64 0)), (.c (.int .i64 0))]⟩,
  ⟨(some 16), none, .mv (.t 17)⟩,
  ⟨(some 18), none, .ext (.t 16) 0⟩,
  ⟨(some 19), none, .ext (.t 16) 1⟩,
  ⟨(some 3), none, .asg (.t 18)⟩,
  ⟨(some 4), none, .asg (.t 19)⟩]
def r_ingotlaw12_known_2 : ICode := .region r_ingotlaw12_known_2_o [] [1, 2, 3, 4]
@[go_sem] theorem r_ingotlaw12_known_2_u {X : Kx} {K : List Kf} {s : St} : go X (.c r_ingotlaw12_known_2 :: K) s = goR X r_ingotlaw12_known_2_o [1, 2, 3, 4] K s := go_region _ _
@[go_sem] def r_ingotlaw12_known_3_o : List IOper := [
  ⟨(some 21), none, .call false n_stamp_Date [(.c (.int .i64 59))]⟩,
  ⟨(some 20), none, .mv (.t 21)⟩,
  ⟨(some 22), none, .ext (.t 20) 0⟩,
  ⟨(some 23), none, .ext (.t 20) 1⟩,
  ⟨(some 24), none, .ext (.t 20) 2⟩,
  ⟨(some 5), none, .asg (.t 22)⟩,
  ⟨(some 6), none, .asg (.t 23)⟩,
  ⟨(some 7), none, .asg (.t 24)⟩]
def r_ingotlaw12_known_3 : ICode := .region r_ingotlaw12_known_3_o [] [1, 2, 3, 4, 5, 6, 7]
@[go_sem] theorem r_ingotlaw12_known_3_u {X : Kx} {K : List Kf} {s : St} : go X (.c r_ingotlaw12_known_3 :: K) s = goR X r_ingotlaw12_known_3_o [1, 2, 3, 4, 5, 6, 7] K s := go_region _ _
@[go_sem] def r_ingotlaw12_known_4_o : List IOper := [
  ⟨(some 26), none, .call false n_stamp_Nano [(.c (.int .i64 1000))]⟩,
  ⟨(some 27), none, .call false n_stamp_Back [(.t 26)]⟩,
  ⟨(some 25), none, .mv (.t 27)⟩,
  ⟨(some 28), none, .ext (.t 25) 0⟩,
  ⟨(some 29), none, .ext (.t 25) 1⟩,
  ⟨(some 8), none, .asg (.t 28)⟩,
  ⟨(some 9), none, .asg (.t 29)⟩]
def r_ingotlaw12_known_4 : ICode := .region r_ingotlaw12_known_4_o [] [1, 2, 3, 4, 5, 6, 7, 8, 9]
@[go_sem] theorem r_ingotlaw12_known_4_u {X : Kx} {K : List Kf} {s : St} : go X (.c r_ingotlaw12_known_4 :: K) s = goR X r_ingotlaw12_known_4_o [1, 2, 3, 4, 5, 6, 7, 8, 9] K s := go_region _ _
@[go_sem] def r_ingotlaw12_known_5_o : List IOper := [
  ⟨(some 31), none, .call false n_stamp_Days [(.c (.int .i64 2015)), (.c (.int .i64 2)), (.c (.int .i64 29))]⟩,
  ⟨(some 30), none, .mv (.t 31)⟩,
  ⟨(some 32), none, .ext (.t 30) 0⟩,
  ⟨(some 33), none, .ext (.t 30) 1⟩,
  ⟨(some 10), none, .asg (.t 32)⟩,
  ⟨(some 11), none, .asg (.t 33)⟩]
def r_ingotlaw12_known_5 : ICode := .region r_ingotlaw12_known_5_o [] [1, 2, 3, 4, 5, 6, 7, 8, 9, 11]
@[go_sem] theorem r_ingotlaw12_known_5_u {X : Kx} {K : List Kf} {s : St} : go X (.c r_ingotlaw12_known_5 :: K) s = goR X r_ingotlaw12_known_5_o [1, 2, 3, 4, 5, 6, 7, 8, 9, 11] K s := go_region _ _
@[go_sem] def r_ingotlaw12_known_6_o : List IOper := [
  ⟨(some 34), none, .mv (.t 1)⟩,
  ⟨(some 35), none, .bin .eql (.t 34) (.c (.int .i64 16436))⟩,
  ⟨(some 36), none, .mv (.t 35)⟩,
  ⟨(some 37), some (36, true), .mv (.t 2)⟩,
  ⟨(some 38), none, .pick (.t 36) (.t 37) (.c (.bool false))⟩,
  ⟨(some 39), none, .mv (.t 38)⟩,
  ⟨(some 40), some (39, true), .mv (.t 3)⟩,
  ⟨(some 41), some (39, true), .bin .eql (.t 40) (.c (.int .i64 1420070400))⟩,
  ⟨(some 42), none, .pick (.t 39) (.t 41) (.c (.bool false))⟩,
  ⟨(some 43), none, .mv (.t 42)⟩,
  ⟨(some 44), some (43, true), .mv (.t 4)⟩,
  ⟨(some 45), none, .pick (.t 43) (.t 44) (.c (.bool false))⟩,
  ⟨(some 46), none, .mv (.t 45)⟩,
  ⟨(some 47), some (46, true), .mv (.t 5)⟩,
  ⟨(some 48), some (46, true), .bin .eql (.t 47) (.c (.int .i64 1970))⟩,
  ⟨(some 49), none, .pick (.t 46) (.t 48) (.c (.bool false))⟩,
  ⟨(some 50), none, .mv (.t 49)⟩,
  ⟨(some 51), some (50, true), .mv (.t 6)⟩,
  ⟨(some 52), some (50, true), .bin .eql (.t 51) (.c (.int .i64 3))⟩,
  ⟨(some 53), none, .pick (.t 50) (.t 52) (.c (.bool false))⟩,
  ⟨(some 54), none, .mv (.t 53)⟩,
  ⟨(some 55), some (54, true), .mv (.t 7)⟩,
  ⟨(some 56), some (54, true), .bin .eql (.t 55) (.c (.int .i64 1))⟩,
  ⟨(some 57), none, .pick (.t 54) (.t 56) (.c (.bool false))⟩,
  ⟨(some 58), none, .mv (.t 57)⟩,
  ⟨(some 59), some (58, true), .mv (.t 8)⟩,
  ⟨(some 60), some (58, true), .bin .eql (.t 59) (.c (.int .i64 1000))⟩,
  ⟨(some 61), none, .pick (.t 58) (.t 60) (.c (.bool false))⟩,
  ⟨(some 62), none, .mv (.t 61)⟩,
  ⟨(some 63), some (62, true), .mv (.t 9)⟩,
  ⟨(some 64), some (62, true), .bin .eql (.t 63) (.c (.int .i64 0))⟩,
  ⟨(some 65), none, .pick (.t 62) (.t 64) (.c (.bool false))⟩,
  ⟨(some 66), none, .mv (.t 65)⟩,
  ⟨(some 67), some (66, true), .call false n_stamp_Nano [(.c (.int .i64 1000))]⟩,
  ⟨(some 68), some (66, true), .bin .eql (.t 67) (.c (.int .u64 10))⟩,
  ⟨(some 69), none, .pick (.t 66) (.t 68) (.c (.bool false))⟩,
  ⟨(some 70), none, .mv (.t 69)⟩,
  ⟨(some 71), some (70, true), .mv (.t 11)⟩,
  ⟨(some 72), some (70, true), .un .not (.t 71)⟩,
  ⟨(some 73), none, .pick (.t 70) (.t 72) (.c (.bool false))⟩,
  ⟨(some 74), none, .mv (.t 73)⟩,
  ⟨(some 75), some (74, true), .call false n_stamp_Text [(.c (.int .i64 (-1))), (.c (.int .i64 500000000))]⟩,
  ⟨(some 76), some (74, true), .bin .eql (.t 75) (.c (.str [49, 57, 54, 57, 45, 49, 50, 45, 51, 49, 32, 50, 51, 58, 53, 57, 58, 53, 57, 46, 53]))⟩,
  ⟨(some 77), none, .pick (.t 74) (.t 76) (.c (.bool false))⟩,
  ⟨(some 78), none, .mv (.t 77)⟩,
  ⟨(some 79), some (78, true), .call false n_stamp_Check [(.c (.int .i64 0)), (.c (.int .i64 0))]⟩,
  ⟨(some 80), none, .pick (.t 78) (.t 79) (.c (.bool false))⟩,
  ⟨(some 0), none, .asg (.t 80)⟩]
def r_ingotlaw12_known_6 : ICode := .region r_ingotlaw12_known_6_o [] [0]
@[go_sem] theorem r_ingotlaw12_known_6_u {X : Kx} {K : List Kf} {s : St} : go X (.c r_ingotlaw12_known_6 :: K) s = goR X r_ingotlaw12_known_6_o [0] K s := go_region _ _
def c_ingotlaw12_known : ICode := (.seq r_ingotlaw12_known_0 (.seq r_ingotlaw12_known_1 (.seq r_ingotlaw12_known_2 (.seq r_ingotlaw12_known_3 (.seq r_ingotlaw12_known_4 (.seq r_ingotlaw12_known_5 (.seq r_ingotlaw12_known_6 .ret)))))))
def i_ingotlaw12_known : IFunc := ⟨0, [.t 0], c_ingotlaw12_known⟩
def a_ingotlaw12_known : Advice := ⟨[], [(6, [0]), (5, [1, 2, 3, 4, 5, 6, 7, 8, 9, 11]), (4, [1, 2, 3, 4, 5, 6, 7, 8, 9]), (3, [1, 2, 3, 4, 5, 6, 7]), (2, [1, 2, 3, 4]), (1, [1, 2]), (0, [])], [], []⟩
/-! ingot/ingotlaw12.StampNanos -/
@[go_sem] def r_ingotlaw12_StampNanos_0_o : List IOper := [
  ⟨(some 6), none, .asg (.c (.bool false))⟩]
def r_ingotlaw12_StampNanos_0 : ICode := .region r_ingotlaw12_StampNanos_0_o [] [0, 1, 2]
@[go_sem] theorem r_ingotlaw12_StampNanos_0_u {X : Kx} {K : List Kf} {s : St} : go X (.c r_ingotlaw12_StampNanos_0 :: K) s = goR X r_ingotlaw12_StampNanos_0_o [0, 1, 2] K s := go_region _ _
@[go_sem] def r_ingotlaw12_StampNanos_1_o : List IOper := [
  ⟨(some 14), none, .call false n_ingotlaw12_known []⟩,
  ⟨(some 15), none, .un .not (.t 14)⟩]
def r_ingotlaw12_StampNanos_1 : ICode := .region r_ingotlaw12_StampNanos_1_o [] [0, 1, 2, 15]
@[go_sem] theorem r_ingotlaw12_StampNanos_1_u {X : Kx} {K : List Kf} {s : St} : go X (.c r_ingotlaw12_StampNanos_1 :: K) s = goR X r_ingotlaw12_StampNanos_1_o [0, 1, 2, 15] K s := go_region _ _
@[go_sem] def r_ingotlaw12_StampNanos_2_o : List IOper := [
  ⟨(some 6), none, .asg (.c (.bool false))⟩]
def r_ingotlaw12_StampNanos_2 : ICode := .region r_ingotlaw12_StampNanos_2_o [] [6]
@[go_sem] theorem r_ingotlaw12_StampNanos_2_u {X : Kx} {K : List Kf} {s : St} : go X (.c r_ingotlaw12_StampNanos_2 :: K) s = goR X r_ingotlaw12_StampNanos_2_o [6] K s := go_region _ _
@[go_sem] def r_ingotlaw12_StampNanos_3_o : List IOper := [
  ⟨(some 17), none, .mv (.t 1)⟩,
  ⟨(some 18), none, .call false n_stamp_Back [(.t 17)]⟩,
  ⟨(some 16), none, .mv (.t 18)⟩,
  ⟨(some 19), none, .ext (.t 16) 0⟩,
  ⟨(some 20), none, .ext (.t 16) 1⟩,
  ⟨(some 7), none, .asg (.t 19)⟩,
  ⟨(some 8), none, .asg (.t 20)⟩]
def r_ingotlaw12_StampNanos_3 : ICode := .region r_ingotlaw12_StampNanos_3_o [] [0, 1, 2, 7, 8]
@[go_sem] theorem r_ingotlaw12_StampNanos_3_u {X : Kx} {K : List Kf} {s : St} : go X (.c r_ingotlaw12_StampNanos_3 :: K) s = goR X r_ingotlaw12_StampNanos_3_o [0, 1, 2, 7, 8] K s := go_region _ _
@[go_sem] def r_ingotlaw12_StampNanos_4_o : List IOper := [
  ⟨(some 22), none, .mv (.t 1)⟩,
  ⟨(some 23), none, .call false n_ingotref12_Back [(.t 22)]⟩,
  ⟨(some 21), none, .mv (.t 23)⟩,
  ⟨(some 24), none, .ext (.t 21) 0⟩,
  ⟨(some 25), none, .ext (.t 21) 1⟩,
  ⟨(some 9), none, .asg (.t 24)⟩,
  ⟨(some 10), none, .asg (.t 25)⟩]
def r_ingotlaw12_StampNanos_4 : ICode := .region r_ingotlaw12_StampNanos_4_o [] [0, 2, 7, 8, 9, 10]
@[go_sem] theorem r_ingotlaw12_StampNanos_4_u {X : Kx} {K : List Kf} {s : St} : go X (.c r_ingotlaw12_StampNanos_4 :: K) s = goR X r_ingotlaw12_StampNanos_4_o [0, 2, 7, 8, 9, 10] K s := go_region _ _
@[go_sem] def r_ingotlaw12_StampNanos_5_o : List IOper := [
  ⟨(some 26), none, .mv (.t 7)⟩,
  ⟨(some 27), none, .mv (.t 9)⟩,
  ⟨(some 28), none, .bin .neq (.t 26) (.t 27)⟩,
  ⟨(some 29), none, .mv (.t 28)⟩,
  ⟨(some 30), some (29, false), .mv (.t 8)⟩,
  ⟨(some 31), some (29, false), .mv (.t 10)⟩,
  ⟨(some 32), some (29, false), .bin .neq (.t 30) (.t 31)⟩,
  ⟨(some 33), none, .pick (.t 29) (.c (.bool true)) (.t 32)⟩,
  ⟨(some 34), none, .mv (.t 33)⟩,
  ⟨(some 35), some (34, false), .mv (.t 2)⟩,
  ⟨(some 36), some (34, false), .mv (.t 0)⟩,
  ⟨(some 37), some (34, false), .call false n_stamp_Check [(.t 35), (.t 36)]⟩,
  ⟨(some 38), some (34, false), .mv (.t 2)⟩,
  ⟨(some 39), some (34, false), .mv (.t 0)⟩,
  ⟨(some 40), some (34, false), .call false n_ingotref12_Check [(.t 38), (.t 39)]⟩,
  ⟨(some 41), some (34, false), .eqn true .bool (.t 37) (.t 40)⟩,
  ⟨(some 42), none, .pick (.t 34) (.c (.bool true)) (.t 41)⟩]
def r_ingotlaw12_StampNanos_5 : ICode := .region r_ingotlaw12_StampNanos_5_o [] [0, 42]
@[go_sem] theorem r_ingotlaw12_StampNanos_5_u {X : Kx} {K : List Kf} {s : St} : go X (.c r_ingotlaw12_StampNanos_5 :: K) s = goR X r_ingotlaw12_StampNanos_5_o [0, 42] K s := go_region _ _
@[go_sem] def r_ingotlaw12_StampNanos_6_o : List IOper := [
  ⟨(some 6), none, .asg (.c (.bool false))⟩]
def r_ingotlaw12_StampNanos_6 : ICode := .region r_ingotlaw12_StampNanos_6_o [] [6]
@[go_sem] theorem r_ingotlaw12_StampNanos_6_u {X : Kx} {K : List Kf} {s : St} : go X (.c r_ingotlaw12_StampNanos_6 :: K) s = goR X r_ingotlaw12_StampNanos_6_o [6] K s := go_region _ _
@[go_sem] def r_ingotlaw12_StampNanos_7_o : List IOper := [
  ⟨(some 43), none, .mv (.t 0)⟩,
  ⟨(some 44), none, .bin .lss (.t 43) (.c (.int .i64 0))⟩,
  ⟨(some 45), none, .mv (.t 44)⟩,
  ⟨(some 46), some (45, false), .mv (.t 0)⟩,
  ⟨(some 47), some (45, false), .bin .gtr (.t 46) (.c (.int .i64 999999999))⟩,
  ⟨(some 48), none, .pick (.t 45) (.c (.bool true)) (.t 47)⟩]
def r_ingotlaw12_StampNanos_7 : ICode := .region r_ingotlaw12_StampNanos_7_o [] [0, 48]
@[go_sem] theorem r_ingotlaw12_StampNanos_7_u {X : Kx} {K : List Kf} {s : St} : go X (.c r_ingotlaw12_StampNanos_7 :: K) s = goR X r_ingotlaw12_StampNanos_7_o [0, 48] K s := go_region _ _
@[go_sem] def r_ingotlaw12_StampNanos_8_o : List IOper := [
  ⟨(some 6), none, .asg (.c (.bool true))⟩]
def r_ingotlaw12_StampNanos_8 : ICode := .region r_ingotlaw12_StampNanos_8_o [] [6]
@[go_sem] theorem r_ingotlaw12_StampNanos_8_u {X : Kx} {K : List Kf} {s : St} : go X (.c r_ingotlaw12_StampNanos_8 :: K) s = goR X r_ingotlaw12_StampNanos_8_o [6] K s := go_region _ _
@[go_sem] def r_ingotlaw12_StampNanos_9_o : List IOper := [
  ⟨(some 49), none, .mv (.t 0)⟩,
  ⟨(some 50), none, .call false n_stamp_Nano [(.t 49)]⟩,
  ⟨(some 11), none, .asg (.t 50)⟩]
def r_ingotlaw12_StampNanos_9 : ICode := .region r_ingotlaw12_StampNanos_9_o [] [0, 11]
@[go_sem] theorem r_ingotlaw12_StampNanos_9_u {X : Kx} {K : List Kf} {s : St} : go X (.c r_ingotlaw12_StampNanos_9 :: K) s = goR X r_ingotlaw12_StampNanos_9_o [0, 11] K s := go_region _ _
@[go_sem] def r_ingotlaw12_StampNanos_10_o : List IOper := [
  ⟨(some 52), none, .mv (.t 11)⟩,
  ⟨(some 53), none, .call false n_stamp_Back [(.t 52)]⟩,
  ⟨(some 51), none, .mv (.t 53)⟩,
  ⟨(some 54), none, .ext (.t 51) 0⟩,
  ⟨(some 55), none, .ext (.t 51) 1⟩,
  ⟨(some 12), none, .asg (.t 54)⟩,
  ⟨(some 13), none, .asg (.t 55)⟩]
def r_ingotlaw12_StampNanos_10 : ICode := .region r_ingotlaw12_StampNanos_10_o [] [0, 11, 12, 13]
@[go_sem] theorem r_ingotlaw12_StampNanos_10_u {X : Kx} {K : List Kf} {s : St} : go X (.c r_ingotlaw12_StampNanos_10 :: K) s = goR X r_ingotlaw12_StampNanos_10_o [0, 11, 12, 13] K s := go_region _ _
@[go_sem] def r_ingotlaw12_StampNanos_11_o : List IOper := [
  ⟨(some 56), none, .mv (.t 11)⟩,
  ⟨(some 57), none, .mv (.t 0)⟩,
  ⟨(some 58), none, .call false n_ingotref12_Nano [(.t 57)]⟩,
  ⟨(some 59), none, .bin .eql (.t 56) (.t 58)⟩,
  ⟨(some 60), none, .mv (.t 59)⟩,
  ⟨(some 61), some (60, true), .mv (.t 13)⟩,
  ⟨(some 62), some (60, true), .bin .eql (.t 61) (.c (.int .i64 0))⟩,
  ⟨(some 63), none, .pick (.t 60) (.t 62) (.c (.bool false))⟩,
  ⟨(some 64), none, .mv (.t 63)⟩,
  ⟨(some 65), some (64, true), .mv (.t 12)⟩,
  ⟨(some 66), some (64, true), .mv (.t 0)⟩,
  ⟨(some 67), some (64, true), .bin .eql (.t 65) (.t 66)⟩,
  ⟨(some 68), none, .pick (.t 64) (.t 67) (.c (.bool false))⟩,
  ⟨(some 6), none, .asg (.t 68)⟩]
def r_ingotlaw12_StampNanos_11 : ICode := .region r_ingotlaw12_StampNanos_11_o [] [6]
@[go_sem] theorem r_ingotlaw12_StampNanos_11_u {X : Kx} {K : List Kf} {s : St} : go X (.c r_ingotlaw12_StampNanos_11 :: K) s = goR X r_ingotlaw12_StampNanos_11_o [6] K s := go_region _ _
def c_ingotlaw12_StampNanos : ICode := (.seq r_ingotlaw12_StampNanos_0 (.seq (.seq r_ingotlaw12_StampNanos_1 (.cond (.t 15) (.seq r_ingotlaw12_StampNanos_2 .ret) .skip)) (.seq r_ingotlaw12_StampNanos_3 (.seq r_ingotlaw12_StampNanos_4 (.seq (.seq r_ingotlaw12_StampNanos_5 (.cond (.t 42) (.seq r_ingotlaw12_StampNanos_6 .ret) .skip)) (.seq (.seq r_ingotlaw12_StampNanos_7 (.cond (.t 48) (.seq r_ingotlaw12_StampNanos_8 .ret) .skip)) (.seq r_ingotlaw12_StampNanos_9 (.seq r_ingotlaw12_StampNanos_10 (.seq r_ingotlaw12_StampNanos_11 .ret)))))))))
def i_ingotlaw12_StampNanos : IFunc := ⟨3, [.t 6], c_ingotlaw12_StampNanos⟩
def a_ingotlaw12_StampNanos : Advice := ⟨[], [(11, [6]), (10, [0, 11, 12, 13]), (9, [0, 11]), (8, [6]), (7, [0, 48]), (6, [6]), (5, [0, 42]), (4, [0, 2, 7, 8, 9, 10]), (3, [0, 1, 2, 7, 8]), (2, [6]), (1, [0, 1, 2, 15]), (0, [0, 1, 2])], [], []⟩
/-! the table -/
def tbl : List (FuncId × IFunc) := [(n_ingotlaw12_StampWords, i_ingotlaw12_StampWords), (n_ingotlaw12_StampMonths, i_ingotlaw12_StampMonths), (n_ingotlaw12_StampYears, i_ingotlaw12_StampYears), (n_ingotref12_pad, i_ingotref12_pad), (n_ingotref12_Day, i_ingotref12_Day), (n_ingotref12_Text, i_ingotref12_Text), (n_ingotref12_Split, i_ingotref12_Split), (n_ingotref12_Seconds, i_ingotref12_Seconds), (n_ingotlaw12_StampTexts, i_ingotlaw12_StampTexts), (n_ingotlaw12_StampNext, i_ingotlaw12_StampNext), (n_ingotref12_Date, i_ingotref12_Date), (n_ingotref12_Known, i_ingotref12_Known), (n_ingotref12_floor, i_ingotref12_floor), (n_ingotref12_first, i_ingotref12_first), (n_ingotref12_leap, i_ingotref12_leap), (n_ingotref12_month, i_ingotref12_month), (n_ingotref12_Days, i_ingotref12_Days), (n_ingotlaw12_StampDays, i_ingotlaw12_StampDays), (n_ingotref12_Nano, i_ingotref12_Nano), (n_ingotref12_Check, i_ingotref12_Check), (n_ingotref12_Back, i_ingotref12_Back), (n_stamp_Check, i_stamp_Check), (n_utf8_ValidRune, i_utf8_ValidRune), (n_stringslite_IndexByte, i_stringslite_IndexByte), (n_strings_IndexByte, i_strings_IndexByte), (n_strings_IndexRune, i_strings_IndexRune), (n_strings_ContainsRune, i_strings_ContainsRune), (n_utf8_decodeRuneInStringSlow, i_utf8_decodeRuneInStringSlow), (n_utf8_DecodeRuneInString, i_utf8_DecodeRuneInString), (n_utf8_RuneStart, i_utf8_RuneStart), (n_utf8_DecodeLastRuneInString, i_utf8_DecodeLastRuneInString), (n_strings_trimRightUnicode, i_strings_trimRightUnicode), (n_Pstrings_asciiSet_contains, i_Pstrings_asciiSet_contains), (n_strings_trimRightASCII, i_strings_trimRightASCII), (n_strings_makeASCIISet, i_strings_makeASCIISet), (n_strings_trimRightByte, i_strings_trimRightByte), (n_strings_TrimRight, i_strings_TrimRight), (n_stamp_pad, i_stamp_pad), (n_stamp_Text, i_stamp_Text), (n_stamp_Back, i_stamp_Back), (n_stamp_Nano, i_stamp_Nano), (n_stamp_Date, i_stamp_Date), (n_stamp_Seconds, i_stamp_Seconds), (n_stamp_leap, i_stamp_leap), (n_stamp_length, i_stamp_length), (n_stamp_Days, i_stamp_Days), (n_ingotlaw12_known, i_ingotlaw12_known), (n_ingotlaw12_StampNanos, i_ingotlaw12_StampNanos)]
def clips : List FuncId := []
set_option maxRecDepth 100000 in
theorem k_ingotlaw12_StampWords : cFunc Tryd.prog a_ingotlaw12_StampWords Tryd.f9 = some i_ingotlaw12_StampWords := by kernel_rfl
set_option maxRecDepth 100000 in
theorem k_ingotlaw12_StampMonths : cFunc Tryd.prog a_ingotlaw12_StampMonths Tryd.f8 = some i_ingotlaw12_StampMonths := by kernel_rfl
set_option maxRecDepth 100000 in
theorem k_ingotlaw12_StampYears : cFunc Tryd.prog a_ingotlaw12_StampYears Tryd.f7 = some i_ingotlaw12_StampYears := by kernel_rfl
set_option maxRecDepth 100000 in
theorem k_ingotref12_pad : cFunc Tryd.prog a_ingotref12_pad Tryd.f34 = some i_ingotref12_pad := by kernel_rfl
set_option maxRecDepth 100000 in
theorem k_ingotref12_Day : cFunc Tryd.prog a_ingotref12_Day Tryd.f33 = some i_ingotref12_Day := by kernel_rfl
set_option maxRecDepth 100000 in
theorem k_ingotref12_Text : cFunc Tryd.prog a_ingotref12_Text Tryd.f26 = some i_ingotref12_Text := by kernel_rfl
set_option maxRecDepth 100000 in
theorem k_ingotref12_Split : cFunc Tryd.prog a_ingotref12_Split Tryd.f24 = some i_ingotref12_Split := by kernel_rfl
set_option maxRecDepth 100000 in
theorem k_ingotref12_Seconds : cFunc Tryd.prog a_ingotref12_Seconds Tryd.f23 = some i_ingotref12_Seconds := by kernel_rfl
set_option maxRecDepth 100000 in
theorem k_ingotlaw12_StampTexts : cFunc Tryd.prog a_ingotlaw12_StampTexts Tryd.f6 = some i_ingotlaw12_StampTexts := by kernel_rfl
set_option maxRecDepth 100000 in
theorem k_ingotlaw12_StampNext : cFunc Tryd.prog a_ingotlaw12_StampNext Tryd.f5 = some i_ingotlaw12_StampNext := by kernel_rfl
set_option maxRecDepth 100000 in
theorem k_ingotref12_Date : cFunc Tryd.prog a_ingotref12_Date Tryd.f21 = some i_ingotref12_Date := by kernel_rfl
set_option maxRecDepth 100000 in
theorem k_ingotref12_Known : cFunc Tryd.prog a_ingotref12_Known Tryd.f20 = some i_ingotref12_Known := by kernel_rfl
set_option maxRecDepth 100000 in
theorem k_ingotref12_floor : cFunc Tryd.prog a_ingotref12_floor Tryd.f30 = some i_ingotref12_floor := by kernel_rfl
set_option maxRecDepth 100000 in
theorem k_ingotref12_first : cFunc Tryd.prog a_ingotref12_first Tryd.f29 = some i_ingotref12_first := by kernel_rfl
set_option maxRecDepth 100000 in
theorem k_ingotref12_leap : cFunc Tryd.prog a_ingotref12_leap Tryd.f36 = some i_ingotref12_leap := by kernel_rfl
set_option maxRecDepth 100000 in
theorem k_ingotref12_month : cFunc Tryd.prog a_ingotref12_month Tryd.f28 = some i_ingotref12_month := by kernel_rfl
set_option maxRecDepth 100000 in
theorem k_ingotref12_Days : cFunc Tryd.prog a_ingotref12_Days Tryd.f18 = some i_ingotref12_Days := by kernel_rfl
set_option maxRecDepth 100000 in
theorem k_ingotlaw12_StampDays : cFunc Tryd.prog a_ingotlaw12_StampDays Tryd.f4 = some i_ingotlaw12_StampDays := by kernel_rfl
set_option maxRecDepth 100000 in
theorem k_ingotref12_Nano : cFunc Tryd.prog a_ingotref12_Nano Tryd.f16 = some i_ingotref12_Nano := by kernel_rfl
set_option maxRecDepth 100000 in
theorem k_ingotref12_Check : cFunc Tryd.prog a_ingotref12_Check Tryd.f14 = some i_ingotref12_Check := by kernel_rfl
set_option maxRecDepth 100000 in
theorem k_ingotref12_Back : cFunc Tryd.prog a_ingotref12_Back Tryd.f12 = some i_ingotref12_Back := by kernel_rfl
set_option maxRecDepth 100000 in
theorem k_stamp_Check : cFunc Tryd.prog a_stamp_Check Tryd.f13 = some i_stamp_Check := by kernel_rfl
set_option maxRecDepth 100000 in
theorem k_utf8_ValidRune : cFunc Tryd.prog a_utf8_ValidRune Tryd.f70 = some i_utf8_ValidRune := by kernel_rfl
set_option maxRecDepth 100000 in
theorem k_stringslite_IndexByte : cFunc Tryd.prog a_stringslite_IndexByte Tryd.f78 = some i_stringslite_IndexByte := by kernel_rfl
set_option maxRecDepth 100000 in
theorem k_strings_IndexByte : cFunc Tryd.prog a_strings_IndexByte Tryd.f69 = some i_strings_IndexByte := by kernel_rfl
set_option maxRecDepth 100000 in
theorem k_strings_IndexRune : cFunc Tryd.prog a_strings_IndexRune Tryd.f61 = some i_strings_IndexRune := by kernel_rfl
set_option maxRecDepth 100000 in
theorem k_strings_ContainsRune : cFunc Tryd.prog a_strings_ContainsRune Tryd.f52 = some i_strings_ContainsRune := by kernel_rfl
set_option maxRecDepth 100000 in
theorem k_utf8_decodeRuneInStringSlow : cFunc Tryd.prog a_utf8_decodeRuneInStringSlow Tryd.f68 = some i_utf8_decodeRuneInStringSlow := by kernel_rfl
set_option maxRecDepth 100000 in
theorem k_utf8_DecodeRuneInString : cFunc Tryd.prog a_utf8_DecodeRuneInString Tryd.f60 = some i_utf8_DecodeRuneInString := by kernel_rfl
set_option maxRecDepth 100000 in
theorem k_utf8_RuneStart : cFunc Tryd.prog a_utf8_RuneStart Tryd.f59 = some i_utf8_RuneStart := by kernel_rfl
set_option maxRecDepth 100000 in
theorem k_utf8_DecodeLastRuneInString : cFunc Tryd.prog a_utf8_DecodeLastRuneInString Tryd.f51 = some i_utf8_DecodeLastRuneInString := by kernel_rfl
set_option maxRecDepth 100000 in
theorem k_strings_trimRightUnicode : cFunc Tryd.prog a_strings_trimRightUnicode Tryd.f42 = some i_strings_trimRightUnicode := by kernel_rfl
set_option maxRecDepth 100000 in
theorem k_Pstrings_asciiSet_contains : cFunc Tryd.prog a_Pstrings_asciiSet_contains Tryd.f50 = some i_Pstrings_asciiSet_contains := by kernel_rfl
set_option maxRecDepth 100000 in
theorem k_strings_trimRightASCII : cFunc Tryd.prog a_strings_trimRightASCII Tryd.f41 = some i_strings_trimRightASCII := by kernel_rfl
set_option maxRecDepth 100000 in
theorem k_strings_makeASCIISet : cFunc Tryd.prog a_strings_makeASCIISet Tryd.f40 = some i_strings_makeASCIISet := by kernel_rfl
set_option maxRecDepth 100000 in
theorem k_strings_trimRightByte : cFunc Tryd.prog a_strings_trimRightByte Tryd.f39 = some i_strings_trimRightByte := by kernel_rfl
set_option maxRecDepth 100000 in
theorem k_strings_TrimRight : cFunc Tryd.prog a_strings_TrimRight Tryd.f32 = some i_strings_TrimRight := by kernel_rfl
set_option maxRecDepth 100000 in
theorem k_stamp_pad : cFunc Tryd.prog a_stamp_pad Tryd.f31 = some i_stamp_pad := by kernel_rfl
set_option maxRecDepth 100000 in
theorem k_stamp_Text : cFunc Tryd.prog a_stamp_Text Tryd.f25 = some i_stamp_Text := by kernel_rfl
set_option maxRecDepth 100000 in
theorem k_stamp_Back : cFunc Tryd.prog a_stamp_Back Tryd.f11 = some i_stamp_Back := by kernel_rfl
set_option maxRecDepth 100000 in
theorem k_stamp_Nano : cFunc Tryd.prog a_stamp_Nano Tryd.f15 = some i_stamp_Nano := by kernel_rfl
set_option maxRecDepth 100000 in
theorem k_stamp_Date : cFunc Tryd.prog a_stamp_Date Tryd.f19 = some i_stamp_Date := by kernel_rfl
set_option maxRecDepth 100000 in
theorem k_stamp_Seconds : cFunc Tryd.prog a_stamp_Seconds Tryd.f22 = some i_stamp_Seconds := by kernel_rfl
set_option maxRecDepth 100000 in
theorem k_stamp_leap : cFunc Tryd.prog a_stamp_leap Tryd.f35 = some i_stamp_leap := by kernel_rfl
set_option maxRecDepth 100000 in
theorem k_stamp_length : cFunc Tryd.prog a_stamp_length Tryd.f27 = some i_stamp_length := by kernel_rfl
set_option maxRecDepth 100000 in
theorem k_stamp_Days : cFunc Tryd.prog a_stamp_Days Tryd.f17 = some i_stamp_Days := by kernel_rfl
set_option maxRecDepth 100000 in
theorem k_ingotlaw12_known : cFunc Tryd.prog a_ingotlaw12_known Tryd.f10 = some i_ingotlaw12_known := by kernel_rfl
set_option maxRecDepth 100000 in
theorem k_ingotlaw12_StampNanos : cFunc Tryd.prog a_ingotlaw12_StampNanos Tryd.f3 = some i_ingotlaw12_StampNanos := by kernel_rfl
theorem tbl_ok : Entries Tryd.prog tbl :=
  .cons (.of Tryd.func9 (by kernel_rfl) k_ingotlaw12_StampWords) <|
  .cons (.of Tryd.func8 (by kernel_rfl) k_ingotlaw12_StampMonths) <|
  .cons (.of Tryd.func7 (by kernel_rfl) k_ingotlaw12_StampYears) <|
  .cons (.of Tryd.func34 (by kernel_rfl) k_ingotref12_pad) <|
  .cons (.of Tryd.func33 (by kernel_rfl) k_ingotref12_Day) <|
  .cons (.of Tryd.func26 (by kernel_rfl) k_ingotref12_Text) <|
  .cons (.of Tryd.func24 (by kernel_rfl) k_ingotref12_Split) <|
  .cons (.of Tryd.func23 (by kernel_rfl) k_ingotref12_Seconds) <|
  .cons (.of Tryd.func6 (by kernel_rfl) k_ingotlaw12_StampTexts) <|
  .cons (.of Tryd.func5 (by kernel_rfl) k_ingotlaw12_StampNext) <|
  .cons (.of Tryd.func21 (by kernel_rfl) k_ingotref12_Date) <|
  .cons (.of Tryd.func20 (by kernel_rfl) k_ingotref12_Known) <|
  .cons (.of Tryd.func30 (by kernel_rfl) k_ingotref12_floor) <|
  .cons (.of Tryd.func29 (by kernel_rfl) k_ingotref12_first) <|
  .cons (.of Tryd.func36 (by kernel_rfl) k_ingotref12_leap) <|
  .cons (.of Tryd.func28 (by kernel_rfl) k_ingotref12_month) <|
  .cons (.of Tryd.func18 (by kernel_rfl) k_ingotref12_Days) <|
  .cons (.of Tryd.func4 (by kernel_rfl) k_ingotlaw12_StampDays) <|
  .cons (.of Tryd.func16 (by kernel_rfl) k_ingotref12_Nano) <|
  .cons (.of Tryd.func14 (by kernel_rfl) k_ingotref12_Check) <|
  .cons (.of Tryd.func12 (by kernel_rfl) k_ingotref12_Back) <|
  .cons (.of Tryd.func13 (by kernel_rfl) k_stamp_Check) <|
  .cons (.of Tryd.func70 (by kernel_rfl) k_utf8_ValidRune) <|
  .cons (.of Tryd.func78 (by kernel_rfl) k_stringslite_IndexByte) <|
  .cons (.of Tryd.func69 (by kernel_rfl) k_strings_IndexByte) <|
  .cons (.of Tryd.func61 (by kernel_rfl) k_strings_IndexRune) <|
  .cons (.of Tryd.func52 (by kernel_rfl) k_strings_ContainsRune) <|
  .cons (.of Tryd.func68 (by kernel_rfl) k_utf8_decodeRuneInStringSlow) <|
  .cons (.of Tryd.func60 (by kernel_rfl) k_utf8_DecodeRuneInString) <|
  .cons (.of Tryd.func59 (by kernel_rfl) k_utf8_RuneStart) <|
  .cons (.of Tryd.func51 (by kernel_rfl) k_utf8_DecodeLastRuneInString) <|
  .cons (.of Tryd.func42 (by kernel_rfl) k_strings_trimRightUnicode) <|
  .cons (.of Tryd.func50 (by kernel_rfl) k_Pstrings_asciiSet_contains) <|
  .cons (.of Tryd.func41 (by kernel_rfl) k_strings_trimRightASCII) <|
  .cons (.of Tryd.func40 (by kernel_rfl) k_strings_makeASCIISet) <|
  .cons (.of Tryd.func39 (by kernel_rfl) k_strings_trimRightByte) <|
  .cons (.of Tryd.func32 (by kernel_rfl) k_strings_TrimRight) <|
  .cons (.of Tryd.func31 (by kernel_rfl) k_stamp_pad) <|
  .cons (.of Tryd.func25 (by kernel_rfl) k_stamp_Text) <|
  .cons (.of Tryd.func11 (by kernel_rfl) k_stamp_Back) <|
  .cons (.of Tryd.func15 (by kernel_rfl) k_stamp_Nano) <|
  .cons (.of Tryd.func19 (by kernel_rfl) k_stamp_Date) <|
  .cons (.of Tryd.func22 (by kernel_rfl) k_stamp_Seconds) <|
  .cons (.of Tryd.func35 (by kernel_rfl) k_stamp_leap) <|
  .cons (.of Tryd.func27 (by kernel_rfl) k_stamp_length) <|
  .cons (.of Tryd.func17 (by kernel_rfl) k_stamp_Days) <|
  .cons (.of Tryd.func10 (by kernel_rfl) k_ingotlaw12_known) <|
  .cons (.of Tryd.func3 (by kernel_rfl) k_ingotlaw12_StampNanos) <|
  .nil

/-! what is known besides -/
def exts : FuncId → Option (List D → Option V) := fun f =>
  if f = n_strconv_Itoa then some xItoa else if f = n_strings_Repeat then some xRepeat else none
def pow10 : Array Value := (Lib.pow10Tab.map fun z => Value.int .u64 z).toArray
def gobjs : Nat → Option (Array Value) := fun n => if n = 0 then some pow10 else none
def cfg : Cfg := { funcs := lk tbl, meth := fun _ _ => none, glob := fun _ => none, gobj := gobjs, intTy := fun _ => false, clip := fun f => clips.contains f, ext := exts }
-- CODE2
abbrev X_ingotlaw12_StampWords : Kx := ⟨cfg, 0, [.t 8]⟩
theorem o_ingotlaw12_StampWords (x0 x1 x2 x3 : D) : evL cfg n_ingotlaw12_StampWords 0 [.d x0, .d x1, .d x2, .d x3] [] = go X_ingotlaw12_StampWords [.c c_ingotlaw12_StampWords] ⟨[(0, .d x0), (1, .d x1), (2, .d x2), (3, .d x3)], []⟩ := evL_go (fn := i_ingotlaw12_StampWords) rfl rfl _ _ _ rfl rfl
@[go_sem] theorem u_ingotlaw12_StampWords (orc : Orc) (dep : Nat) (s : Get) (k : Nat) (own : Bool) (args : List IOpd) : stepU cfg orc dep s ⟨some k, none, .call own n_ingotlaw12_StampWords args⟩ = (vals cfg s args).bind fun vs => callU orc s (some k) own n_ingotlaw12_StampWords vs := U_call' s k own _ args rfl
abbrev X_ingotlaw12_StampMonths : Kx := ⟨cfg, 0, [.t 4]⟩
theorem o_ingotlaw12_StampMonths (x0 x1 : D) : evL cfg n_ingotlaw12_StampMonths 0 [.d x0, .d x1] [] = go X_ingotlaw12_StampMonths [.c c_ingotlaw12_StampMonths] ⟨[(0, .d x0), (1, .d x1)], []⟩ := evL_go (fn := i_ingotlaw12_StampMonths) rfl rfl _ _ _ rfl rfl
@[go_sem] theorem u_ingotlaw12_StampMonths (orc : Orc) (dep : Nat) (s : Get) (k : Nat) (own : Bool) (args : List IOpd) : stepU cfg orc dep s ⟨some k, none, .call own n_ingotlaw12_StampMonths args⟩ = (vals cfg s args).bind fun vs => callU orc s (some k) own n_ingotlaw12_StampMonths vs := U_call' s k own _ args rfl
abbrev X_ingotlaw12_StampYears : Kx := ⟨cfg, 0, [.t 2]⟩
theorem o_ingotlaw12_StampYears (x0 : D) : evL cfg n_ingotlaw12_StampYears 0 [.d x0] [] = go X_ingotlaw12_StampYears [.c c_ingotlaw12_StampYears] ⟨[(0, .d x0)], []⟩ := evL_go (fn := i_ingotlaw12_StampYears) rfl rfl _ _ _ rfl rfl
@[go_sem] theorem u_ingotlaw12_StampYears (orc : Orc) (dep : Nat) (s : Get) (k : Nat) (own : Bool) (args : List IOpd) : stepU cfg orc dep s ⟨some k, none, .call own n_ingotlaw12_StampYears args⟩ = (vals cfg s args).bind fun vs => callU orc s (some k) own n_ingotlaw12_StampYears vs := U_call' s k own _ args rfl
abbrev X_ingotref12_pad : Kx := ⟨cfg, 0, [.t 4]⟩
theorem o_ingotref12_pad (x0 x1 : D) : evL cfg n_ingotref12_pad 0 [.d x0, .d x1] [] = go X_ingotref12_pad [.c c_ingotref12_pad] ⟨[(0, .d x0), (1, .d x1)], []⟩ := evL_go (fn := i_ingotref12_pad) rfl rfl _ _ _ rfl rfl
@[go_sem] theorem u_ingotref12_pad (orc : Orc) (dep : Nat) (s : Get) (k : Nat) (own : Bool) (args : List IOpd) : stepU cfg orc dep s ⟨some k, none, .call own n_ingotref12_pad args⟩ = (vals cfg s args).bind fun vs => callU orc s (some k) own n_ingotref12_pad vs := U_call' s k own _ args rfl
abbrev X_ingotref12_Day : Kx := ⟨cfg, 0, [.t 2]⟩
theorem o_ingotref12_Day (x0 : D) : evL cfg n_ingotref12_Day 0 [.d x0] [] = go X_ingotref12_Day [.c c_ingotref12_Day] ⟨[(0, .d x0)], []⟩ := evL_go (fn := i_ingotref12_Day) rfl rfl _ _ _ rfl rfl
@[go_sem] theorem u_ingotref12_Day (orc : Orc) (dep : Nat) (s : Get) (k : Nat) (own : Bool) (args : List IOpd) : stepU cfg orc dep s ⟨some k, none, .call own n_ingotref12_Day args⟩ = (vals cfg s args).bind fun vs => callU orc s (some k) own n_ingotref12_Day vs := U_call' s k own _ args rfl
abbrev X_ingotref12_Text : Kx := ⟨cfg, 0, [.t 4]⟩
theorem o_ingotref12_Text (x0 x1 : D) : evL cfg n_ingotref12_Text 0 [.d x0, .d x1] [] = go X_ingotref12_Text [.c c_ingotref12_Text] ⟨[(0, .d x0), (1, .d x1)], []⟩ := evL_go (fn := i_ingotref12_Text) rfl rfl _ _ _ rfl rfl
@[go_sem] theorem u_ingotref12_Text (orc : Orc) (dep : Nat) (s : Get) (k : Nat) (own : Bool) (args : List IOpd) : stepU cfg orc dep s ⟨some k, none, .call own n_ingotref12_Text args⟩ = (vals cfg s args).bind fun vs => callU orc s (some k) own n_ingotref12_Text vs := U_call' s k own _ args rfl
abbrev X_ingotref12_Split : Kx := ⟨cfg, 0, [.t 2, .t 3]⟩
theorem o_ingotref12_Split (x0 : D) : evL cfg n_ingotref12_Split 0 [.d x0] [] = go X_ingotref12_Split [.c c_ingotref12_Split] ⟨[(0, .d x0)], []⟩ := evL_go (fn := i_ingotref12_Split) rfl rfl _ _ _ rfl rfl
@[go_sem] theorem u_ingotref12_Split (orc : Orc) (dep : Nat) (s : Get) (k : Nat) (own : Bool) (args : List IOpd) : stepU cfg orc dep s ⟨some k, none, .call own n_ingotref12_Split args⟩ = (vals cfg s args).bind fun vs => callU orc s (some k) own n_ingotref12_Split vs := U_call' s k own _ args rfl
abbrev X_ingotref12_Seconds : Kx := ⟨cfg, 0, [.t 12, .t 13]⟩
theorem o_ingotref12_Seconds (x0 x1 x2 x3 x4 x5 : D) : evL cfg n_ingotref12_Seconds 0 [.d x0, .d x1, .d x2, .d x3, .d x4, .d x5] [] = go X_ingotref12_Seconds [.c c_ingotref12_Seconds] ⟨[(0, .d x0), (1, .d x1), (2, .d x2), (3, .d x3), (4, .d x4), (5, .d x5)], []⟩ := evL_go (fn := i_ingotref12_Seconds) rfl rfl _ _ _ rfl rfl
@[go_sem] theorem u_ingotref12_Seconds (orc : Orc) (dep : Nat) (s : Get) (k : Nat) (own : Bool) (args : List IOpd) : stepU cfg orc dep s ⟨some k, none, .call own n_ingotref12_Seconds args⟩ = (vals cfg s args).bind fun vs => callU orc s (some k) own n_ingotref12_Seconds vs := U_call' s k own _ args rfl
abbrev X_ingotlaw12_StampTexts : Kx := ⟨cfg, 0, [.t 16]⟩
theorem o_ingotlaw12_StampTexts (x0 x1 x2 x3 x4 x5 x6 x7 : D) : evL cfg n_ingotlaw12_StampTexts 0 [.d x0, .d x1, .d x2, .d x3, .d x4, .d x5, .d x6, .d x7] [] = go X_ingotlaw12_StampTexts [.c c_ingotlaw12_StampTexts] ⟨[(0, .d x0), (1, .d x1), (2, .d x2), (3, .d x3), (4, .d x4), (5, .d x5), (6, .d x6), (7, .d x7)], []⟩ := evL_go (fn := i_ingotlaw12_StampTexts) rfl rfl _ _ _ rfl rfl
@[go_sem] theorem u_ingotlaw12_StampTexts (orc : Orc) (dep : Nat) (s : Get) (k : Nat) (own : Bool) (args : List IOpd) : stepU cfg orc dep s ⟨some k, none, .call own n_ingotlaw12_StampTexts args⟩ = (vals cfg s args).bind fun vs => callU orc s (some k) own n_ingotlaw12_StampTexts vs := U_call' s k own _ args rfl
abbrev X_ingotlaw12_StampNext : Kx := ⟨cfg, 0, [.t 2]⟩
theorem o_ingotlaw12_StampNext (x0 : D) : evL cfg n_ingotlaw12_StampNext 0 [.d x0] [] = go X_ingotlaw12_StampNext [.c c_ingotlaw12_StampNext] ⟨[(0, .d x0)], []⟩ := evL_go (fn := i_ingotlaw12_StampNext) rfl rfl _ _ _ rfl rfl
@[go_sem] theorem u_ingotlaw12_StampNext (orc : Orc) (dep : Nat) (s : Get) (k : Nat) (own : Bool) (args : List IOpd) : stepU cfg orc dep s ⟨some k, none, .call own n_ingotlaw12_StampNext args⟩ = (vals cfg s args).bind fun vs => callU orc s (some k) own n_ingotlaw12_StampNext vs := U_call' s k own _ args rfl
abbrev X_ingotref12_Date : Kx := ⟨cfg, 0, [.t 2, .t 3, .t 4]⟩
theorem o_ingotref12_Date (x0 : D) : evL cfg n_ingotref12_Date 0 [.d x0] [] = go X_ingotref12_Date [.c c_ingotref12_Date] ⟨[(0, .d x0)], []⟩ := evL_go (fn := i_ingotref12_Date) rfl rfl _ _ _ rfl rfl
@[go_sem] theorem u_ingotref12_Date (orc : Orc) (dep : Nat) (s : Get) (k : Nat) (own : Bool) (args : List IOpd) : stepU cfg orc dep s ⟨some k, none, .call own n_ingotref12_Date args⟩ = (vals cfg s args).bind fun vs => callU orc s (some k) own n_ingotref12_Date vs := U_call' s k own _ args rfl
abbrev X_ingotref12_Known : Kx := ⟨cfg, 0, [.t 2]⟩
theorem o_ingotref12_Known (x0 : D) : evL cfg n_ingotref12_Known 0 [.d x0] [] = go X_ingotref12_Known [.c c_ingotref12_Known] ⟨[(0, .d x0)], []⟩ := evL_go (fn := i_ingotref12_Known) rfl rfl _ _ _ rfl rfl
@[go_sem] theorem u_ingotref12_Known (orc : Orc) (dep : Nat) (s : Get) (k : Nat) (own : Bool) (args : List IOpd) : stepU cfg orc dep s ⟨some k, none, .call own n_ingotref12_Known args⟩ = (vals cfg s args).bind fun vs => callU orc s (some k) own n_ingotref12_Known vs := U_call' s k own _ args rfl
abbrev X_ingotref12_floor : Kx := ⟨cfg, 0, [.t 4]⟩
theorem o_ingotref12_floor (x0 x1 : D) : evL cfg n_ingotref12_floor 0 [.d x0, .d x1] [] = go X_ingotref12_floor [.c c_ingotref12_floor] ⟨[(0, .d x0), (1, .d x1)], []⟩ := evL_go (fn := i_ingotref12_floor) rfl rfl _ _ _ rfl rfl
@[go_sem] theorem u_ingotref12_floor (orc : Orc) (dep : Nat) (s : Get) (k : Nat) (own : Bool) (args : List IOpd) : stepU cfg orc dep s ⟨some k, none, .call own n_ingotref12_floor args⟩ = (vals cfg s args).bind fun vs => callU orc s (some k) own n_ingotref12_floor vs := U_call' s k own _ args rfl
abbrev X_ingotref12_first : Kx := ⟨cfg, 0, [.t 2]⟩
theorem o_ingotref12_first (x0 : D) : evL cfg n_ingotref12_first 0 [.d x0] [] = go X_ingotref12_first [.c c_ingotref12_first] ⟨[(0, .d x0)], []⟩ := evL_go (fn := i_ingotref12_first) rfl rfl _ _ _ rfl rfl
@[go_sem] theorem u_ingotref12_first (orc : Orc) (dep : Nat) (s : Get) (k : Nat) (own : Bool) (args : List IOpd) : stepU cfg orc dep s ⟨some k, none, .call own n_ingotref12_first args⟩ = (vals cfg s args).bind fun vs => callU orc s (some k) own n_ingotref12_first vs := U_call' s k own _ args rfl
abbrev X_ingotref12_leap : Kx := ⟨cfg, 0, [.t 2]⟩
theorem o_ingotref12_leap (x0 : D) : evL cfg n_ingotref12_leap 0 [.d x0] [] = go X_ingotref12_leap [.c c_ingotref12_leap] ⟨[(0, .d x0)], []⟩ := evL_go (fn := i_ingotref12_leap) rfl rfl _ _ _ rfl rfl
@[go_sem] theorem u_ingotref12_leap (orc : Orc) (dep : Nat) (s : Get) (k : Nat) (own : Bool) (args : List IOpd) : stepU cfg orc dep s ⟨some k, none, .call own n_ingotref12_leap args⟩ = (vals cfg s args).bind fun vs => callU orc s (some k) own n_ingotref12_leap vs := U_call' s k own _ args rfl
abbrev X_ingotref12_month : Kx := ⟨cfg, 0, [.t 4]⟩
theorem o_ingotref12_month (x0 x1 : D) : evL cfg n_ingotref12_month 0 [.d x0, .d x1] [] = go X_ingotref12_month [.c c_ingotref12_month] ⟨[(0, .d x0), (1, .d x1)], []⟩ := evL_go (fn := i_ingotref12_month) rfl rfl _ _ _ rfl rfl
@[go_sem] theorem u_ingotref12_month (orc : Orc) (dep : Nat) (s : Get) (k : Nat) (own : Bool) (args : List IOpd) : stepU cfg orc dep s ⟨some k, none, .call own n_ingotref12_month args⟩ = (vals cfg s args).bind fun vs => callU orc s (some k) own n_ingotref12_month vs := U_call' s k own _ args rfl
abbrev X_ingotref12_Days : Kx := ⟨cfg, 0, [.t 6, .t 7]⟩
theorem o_ingotref12_Days (x0 x1 x2 : D) : evL cfg n_ingotref12_Days 0 [.d x0, .d x1, .d x2] [] = go X_ingotref12_Days [.c c_ingotref12_Days] ⟨[(0, .d x0), (1, .d x1), (2, .d x2)], []⟩ := evL_go (fn := i_ingotref12_Days) rfl rfl _ _ _ rfl rfl
@[go_sem] theorem u_ingotref12_Days (orc : Orc) (dep : Nat) (s : Get) (k : Nat) (own : Bool) (args : List IOpd) : stepU cfg orc dep s ⟨some k, none, .call own n_ingotref12_Days args⟩ = (vals cfg s args).bind fun vs => callU orc s (some k) own n_ingotref12_Days vs := U_call' s k own _ args rfl
abbrev X_ingotlaw12_StampDays : Kx := ⟨cfg, 0, [.t 8]⟩
theorem o_ingotlaw12_StampDays (x0 x1 x2 x3 : D) : evL cfg n_ingotlaw12_StampDays 0 [.d x0, .d x1, .d x2, .d x3] [] = go X_ingotlaw12_StampDays [.c c_ingotlaw12_StampDays] ⟨[(0, .d x0), (1, .d x1), (2, .d x2), (3, .d x3)], []⟩ := evL_go (fn := i_ingotlaw12_StampDays) rfl rfl _ _ _ rfl rfl
@[go_sem] theorem u_ingotlaw12_StampDays (orc : Orc) (dep : Nat) (s : Get) (k : Nat) (own : Bool) (args : List IOpd) : stepU cfg orc dep s ⟨some k, none, .call own n_ingotlaw12_StampDays args⟩ = (vals cfg s args).bind fun vs => callU orc s (some k) own n_ingotlaw12_StampDays vs := U_call' s k own _ args rfl
abbrev X_ingotref12_Nano : Kx := ⟨cfg, 0, [.t 2]⟩
theorem o_ingotref12_Nano (x0 : D) : evL cfg n_ingotref12_Nano 0 [.d x0] [] = go X_ingotref12_Nano [.c c_ingotref12_Nano] ⟨[(0, .d x0)], []⟩ := evL_go (fn := i_ingotref12_Nano) rfl rfl _ _ _ rfl rfl
@[go_sem] theorem u_ingotref12_Nano (orc : Orc) (dep : Nat) (s : Get) (k : Nat) (own : Bool) (args : List IOpd) : stepU cfg orc dep s ⟨some k, none, .call own n_ingotref12_Nano args⟩ = (vals cfg s args).bind fun vs => callU orc s (some k) own n_ingotref12_Nano vs := U_call' s k own _ args rfl
abbrev X_ingotref12_Check : Kx := ⟨cfg, 0, [.t 4]⟩
theorem o_ingotref12_Check (x0 x1 : D) : evL cfg n_ingotref12_Check 0 [.d x0, .d x1] [] = go X_ingotref12_Check [.c c_ingotref12_Check] ⟨[(0, .d x0), (1, .d x1)], []⟩ := evL_go (fn := i_ingotref12_Check) rfl rfl _ _ _ rfl rfl
@[go_sem] theorem u_ingotref12_Check (orc : Orc) (dep : Nat) (s : Get) (k : Nat) (own : Bool) (args : List IOpd) : stepU cfg orc dep s ⟨some k, none, .call own n_ingotref12_Check args⟩ = (vals cfg s args).bind fun vs => callU orc s (some k) own n_ingotref12_Check vs := U_call' s k own _ args rfl
abbrev X_ingotref12_Back : Kx := ⟨cfg, 0, [.t 2, .t 3]⟩
theorem o_ingotref12_Back (x0 : D) : evL cfg n_ingotref12_Back 0 [.d x0] [] = go X_ingotref12_Back [.c c_ingotref12_Back] ⟨[(0, .d x0)], []⟩ := evL_go (fn := i_ingotref12_Back) rfl rfl _ _ _ rfl rfl
@[go_sem] theorem u_ingotref12_Back (orc : Orc) (dep : Nat) (s : Get) (k : Nat) (own : Bool) (args : List IOpd) : stepU cfg orc dep s ⟨some k, none, .call own n_ingotref12_Back args⟩ = (vals cfg s args).bind fun vs => callU orc s (some k) own n_ingotref12_Back vs := U_call' s k own _ args rfl
abbrev X_stamp_Check : Kx := ⟨cfg, 0, [.t 4]⟩
theorem o_stamp_Check (x0 x1 : D) : evL cfg n_stamp_Check 0 [.d x0, .d x1] [] = go X_stamp_Check [.c c_stamp_Check] ⟨[(0, .d x0), (1, .d x1)], []⟩ := evL_go (fn := i_stamp_Check) rfl rfl _ _ _ rfl rfl
@[go_sem] theorem u_stamp_Check (orc : Orc) (dep : Nat) (s : Get) (k : Nat) (own : Bool) (args : List IOpd) : stepU cfg orc dep s ⟨some k, none, .call own n_stamp_Check args⟩ = (vals cfg s args).bind fun vs => callU orc s (some k) own n_stamp_Check vs := U_call' s k own _ args rfl
abbrev X_utf8_ValidRune : Kx := ⟨cfg, 0, [.t 2]⟩
theorem o_utf8_ValidRune (x0 : D) : evL cfg n_utf8_ValidRune 0 [.d x0] [] = go X_utf8_ValidRune [.c c_utf8_ValidRune] ⟨[(0, .d x0)], []⟩ := evL_go (fn := i_utf8_ValidRune) rfl rfl _ _ _ rfl rfl
@[go_sem] theorem u_utf8_ValidRune (orc : Orc) (dep : Nat) (s : Get) (k : Nat) (own : Bool) (args : List IOpd) : stepU cfg orc dep s ⟨some k, none, .call own n_utf8_ValidRune args⟩ = (vals cfg s args).bind fun vs => callU orc s (some k) own n_utf8_ValidRune vs := U_call' s k own _ args rfl
abbrev X_stringslite_IndexByte : Kx := ⟨cfg, 0, [.t 4]⟩
theorem o_stringslite_IndexByte (x0 x1 : D) : evL cfg n_stringslite_IndexByte 0 [.d x0, .d x1] [] = go X_stringslite_IndexByte [.c c_stringslite_IndexByte] ⟨[(0, .d x0), (1, .d x1)], []⟩ := evL_go (fn := i_stringslite_IndexByte) rfl rfl _ _ _ rfl rfl
@[go_sem] theorem u_stringslite_IndexByte (orc : Orc) (dep : Nat) (s : Get) (k : Nat) (own : Bool) (args : List IOpd) : stepU cfg orc dep s ⟨some k, none, .call own n_stringslite_IndexByte args⟩ = (vals cfg s args).bind fun vs => callU orc s (some k) own n_stringslite_IndexByte vs := U_call' s k own _ args rfl
abbrev X_strings_IndexByte : Kx := ⟨cfg, 0, [.t 4]⟩
theorem o_strings_IndexByte (x0 x1 : D) : evL cfg n_strings_IndexByte 0 [.d x0, .d x1] [] = go X_strings_IndexByte [.c c_strings_IndexByte] ⟨[(0, .d x0), (1, .d x1)], []⟩ := evL_go (fn := i_strings_IndexByte) rfl rfl _ _ _ rfl rfl
@[go_sem] theorem u_strings_IndexByte (orc : Orc) (dep : Nat) (s : Get) (k : Nat) (own : Bool) (args : List IOpd) : stepU cfg orc dep s ⟨some k, none, .call own n_strings_IndexByte args⟩ = (vals cfg s args).bind fun vs => callU orc s (some k) own n_strings_IndexByte vs := U_call' s k own _ args rfl
abbrev X_strings_IndexRune : Kx := ⟨cfg, 0, [.t 4]⟩
theorem o_strings_IndexRune (x0 x1 : D) : evL cfg n_strings_IndexRune 0 [.d x0, .d x1] [] = go X_strings_IndexRune [.c c_strings_IndexRune] ⟨[(0, .d x0), (1, .d x1)], []⟩ := evL_go (fn := i_strings_IndexRune) rfl rfl _ _ _ rfl rfl
@[go_sem] theorem u_strings_IndexRune (orc : Orc) (dep : Nat) (s : Get) (k : Nat) (own : Bool) (args : List IOpd) : stepU cfg orc dep s ⟨some k, none, .call own n_strings_IndexRune args⟩ = (vals cfg s args).bind fun vs => callU orc s (some k) own n_strings_IndexRune vs := U_call' s k own _ args rfl
abbrev X_strings_ContainsRune : Kx := ⟨cfg, 0, [.t 4]⟩
theorem o_strings_ContainsRune (x0 x1 : D) : evL cfg n_strings_ContainsRune 0 [.d x0, .d x1] [] = go X_strings_ContainsRune [.c c_strings_ContainsRune] ⟨[(0, .d x0), (1, .d x1)], []⟩ := evL_go (fn := i_strings_ContainsRune) rfl rfl _ _ _ rfl rfl
@[go_sem] theorem u_strings_ContainsRune (orc : Orc) (dep : Nat) (s : Get) (k : Nat) (own : Bool) (args : List IOpd) : stepU cfg orc dep s ⟨some k, none, .call own n_strings_ContainsRune args⟩ = (vals cfg s args).bind fun vs => callU orc s (some k) own n_strings_ContainsRune vs := U_call' s k own _ args rfl
abbrev X_utf8_decodeRuneInStringSlow : Kx := ⟨cfg, 0, [.t 2, .t 3]⟩
theorem o_utf8_decodeRuneInStringSlow (x0 : D) : evL cfg n_utf8_decodeRuneInStringSlow 0 [.d x0] [] = go X_utf8_decodeRuneInStringSlow [.c c_utf8_decodeRuneInStringSlow] ⟨[(0, .d x0)], []⟩ := evL_go (fn := i_utf8_decodeRuneInStringSlow) rfl rfl _ _ _ rfl rfl
@[go_sem] theorem u_utf8_decodeRuneInStringSlow (orc : Orc) (dep : Nat) (s : Get) (k : Nat) (own : Bool) (args : List IOpd) : stepU cfg orc dep s ⟨some k, none, .call own n_utf8_decodeRuneInStringSlow args⟩ = (vals cfg s args).bind fun vs => callU orc s (some k) own n_utf8_decodeRuneInStringSlow vs := U_call' s k own _ args rfl
abbrev X_utf8_DecodeRuneInString : Kx := ⟨cfg, 0, [.t 2, .t 3]⟩
theorem o_utf8_DecodeRuneInString (x0 : D) : evL cfg n_utf8_DecodeRuneInString 0 [.d x0] [] = go X_utf8_DecodeRuneInString [.c c_utf8_DecodeRuneInString] ⟨[(0, .d x0)], []⟩ := evL_go (fn := i_utf8_DecodeRuneInString) rfl rfl _ _ _ rfl rfl
@[go_sem] theorem u_utf8_DecodeRuneInString (orc : Orc) (dep : Nat) (s : Get) (k : Nat) (own : Bool) (args : List IOpd) : stepU cfg orc dep s ⟨some k, none, .call own n_utf8_DecodeRuneInString args⟩ = (vals cfg s args).bind fun vs => callU orc s (some k) own n_utf8_DecodeRuneInString vs := U_call' s k own _ args rfl
abbrev X_utf8_RuneStart : Kx := ⟨cfg, 0, [.t 2]⟩
theorem o_utf8_RuneStart (x0 : D) : evL cfg n_utf8_RuneStart 0 [.d x0] [] = go X_utf8_RuneStart [.c c_utf8_RuneStart] ⟨[(0, .d x0)], []⟩ := evL_go (fn := i_utf8_RuneStart) rfl rfl _ _ _ rfl rfl
@[go_sem] theorem u_utf8_RuneStart (orc : Orc) (dep : Nat) (s : Get) (k : Nat) (own : Bool) (args : List IOpd) : stepU cfg orc dep s ⟨some k, none, .call own n_utf8_RuneStart args⟩ = (vals cfg s args).bind fun vs => callU orc s (some k) own n_utf8_RuneStart vs := U_call' s k own _ args rfl
abbrev X_utf8_DecodeLastRuneInString : Kx := ⟨cfg, 0, [.t 2, .t 3]⟩
theorem o_utf8_DecodeLastRuneInString (x0 : D) : evL cfg n_utf8_DecodeLastRuneInString 0 [.d x0] [] = go X_utf8_DecodeLastRuneInString [.c c_utf8_DecodeLastRuneInString] ⟨[(0, .d x0)], []⟩ := evL_go (fn := i_utf8_DecodeLastRuneInString) rfl rfl _ _ _ rfl rfl
@[go_sem] theorem u_utf8_DecodeLastRuneInString (orc : Orc) (dep : Nat) (s : Get) (k : Nat) (own : Bool) (args : List IOpd) : stepU cfg orc dep s ⟨some k, none, .call own n_utf8_DecodeLastRuneInString args⟩ = (vals cfg s args).bind fun vs => callU orc s (some k) own n_utf8_DecodeLastRuneInString vs := U_call' s k own _ args rfl
abbrev X_strings_trimRightUnicode : Kx := ⟨cfg, 0, [.t 4]⟩
theorem o_strings_trimRightUnicode (x0 x1 : D) : evL cfg n_strings_trimRightUnicode 0 [.d x0, .d x1] [] = go X_strings_trimRightUnicode [.c c_strings_trimRightUnicode] ⟨[(0, .d x0), (1, .d x1)], []⟩ := evL_go (fn := i_strings_trimRightUnicode) rfl rfl _ _ _ rfl rfl
@[go_sem] theorem u_strings_trimRightUnicode (orc : Orc) (dep : Nat) (s : Get) (k : Nat) (own : Bool) (args : List IOpd) : stepU cfg orc dep s ⟨some k, none, .call own n_strings_trimRightUnicode args⟩ = (vals cfg s args).bind fun vs => callU orc s (some k) own n_strings_trimRightUnicode vs := U_call' s k own _ args rfl
abbrev X_Pstrings_asciiSet_contains : Kx := ⟨cfg, 0, [.t 4]⟩
theorem o_Pstrings_asciiSet_contains (x0 x1 : D) : evL cfg n_Pstrings_asciiSet_contains 0 [.d x0, .d x1] [] = go X_Pstrings_asciiSet_contains [.c c_Pstrings_asciiSet_contains] ⟨[(0, .d x0), (1, .d x1)], []⟩ := evL_go (fn := i_Pstrings_asciiSet_contains) rfl rfl _ _ _ rfl rfl
@[go_sem] theorem u_Pstrings_asciiSet_contains (orc : Orc) (dep : Nat) (s : Get) (k : Nat) (own : Bool) (args : List IOpd) : stepU cfg orc dep s ⟨some k, none, .call own n_Pstrings_asciiSet_contains args⟩ = (vals cfg s args).bind fun vs => callU orc s (some k) own n_Pstrings_asciiSet_contains vs := U_call' s k own _ args rfl
abbrev X_strings_trimRightASCII : Kx := ⟨cfg, 0, [.t 4]⟩
theorem o_strings_trimRightASCII (x0 x1 : D) : evL cfg n_strings_trimRightASCII 0 [.d x0, .d x1] [] = go X_strings_trimRightASCII [.c c_strings_trimRightASCII] ⟨[(0, .d x0), (1, .d x1)], []⟩ := evL_go (fn := i_strings_trimRightASCII) rfl rfl _ _ _ rfl rfl
@[go_sem] theorem u_strings_trimRightASCII (orc : Orc) (dep : Nat) (s : Get) (k : Nat) (own : Bool) (args : List IOpd) : stepU cfg orc dep s ⟨some k, none, .call own n_strings_trimRightASCII args⟩ = (vals cfg s args).bind fun vs => callU orc s (some k) own n_strings_trimRightASCII vs := U_call' s k own _ args rfl
abbrev X_strings_makeASCIISet : Kx := ⟨cfg, 0, [.cell 2 (some 256), .t 3]⟩
theorem o_strings_makeASCIISet (x0 : D) : evL cfg n_strings_makeASCIISet 0 [.d x0] [] = go X_strings_makeASCIISet [.c c_strings_makeASCIISet] ⟨[(0, .d x0)], []⟩ := evL_go (fn := i_strings_makeASCIISet) rfl rfl _ _ _ rfl rfl
@[go_sem] theorem u_strings_makeASCIISet (orc : Orc) (dep : Nat) (s : Get) (k : Nat) (own : Bool) (args : List IOpd) : stepU cfg orc dep s ⟨some k, none, .call own n_strings_makeASCIISet args⟩ = (vals cfg s args).bind fun vs => callU orc s (some k) own n_strings_makeASCIISet vs := U_call' s k own _ args rfl
abbrev X_strings_trimRightByte : Kx := ⟨cfg, 0, [.t 4]⟩
theorem o_strings_trimRightByte (x0 x1 : D) : evL cfg n_strings_trimRightByte 0 [.d x0, .d x1] [] = go X_strings_trimRightByte [.c c_strings_trimRightByte] ⟨[(0, .d x0), (1, .d x1)], []⟩ := evL_go (fn := i_strings_trimRightByte) rfl rfl _ _ _ rfl rfl
@[go_sem] theorem u_strings_trimRightByte (orc : Orc) (dep : Nat) (s : Get) (k : Nat) (own : Bool) (args : List IOpd) : stepU cfg orc dep s ⟨some k, none, .call own n_strings_trimRightByte args⟩ = (vals cfg s args).bind fun vs => callU orc s (some k) own n_strings_trimRightByte vs := U_call' s k own _ args rfl
abbrev X_strings_TrimRight : Kx := ⟨cfg, 0, [.t 4]⟩
theorem o_strings_TrimRight (x0 x1 : D) : evL cfg n_strings_TrimRight 0 [.d x0, .d x1] [] = go X_strings_TrimRight [.c c_strings_TrimRight] ⟨[(0, .d x0), (1, .d x1)], []⟩ := evL_go (fn := i_strings_TrimRight) rfl rfl _ _ _ rfl rfl
@[go_sem] theorem u_strings_TrimRight (orc : Orc) (dep : Nat) (s : Get) (k : Nat) (own : Bool) (args : List IOpd) : stepU cfg orc dep s ⟨some k, none, .call own n_strings_TrimRight args⟩ = (vals cfg s args).bind fun vs => callU orc s (some k) own n_strings_TrimRight vs := U_call' s k own _ args rfl
abbrev X_stamp_pad : Kx := ⟨cfg, 0, [.t 4]⟩
theorem o_stamp_pad (x0 x1 : D) : evL cfg n_stamp_pad 0 [.d x0, .d x1] [] = go X_stamp_pad [.c c_stamp_pad] ⟨[(0, .d x0), (1, .d x1)], []⟩ := evL_go (fn := i_stamp_pad) rfl rfl _ _ _ rfl rfl
@[go_sem] theorem u_stamp_pad (orc : Orc) (dep : Nat) (s : Get) (k : Nat) (own : Bool) (args : List IOpd) : stepU cfg orc dep s ⟨some k, none, .call own n_stamp_pad args⟩ = (vals cfg s args).bind fun vs => callU orc s (some k) own n_stamp_pad vs := U_call' s k own _ args rfl
abbrev X_stamp_Text : Kx := ⟨cfg, 0, [.t 4]⟩
theorem o_stamp_Text (x0 x1 : D) : evL cfg n_stamp_Text 0 [.d x0, .d x1] [] = go X_stamp_Text [.c c_stamp_Text] ⟨[(0, .d x0), (1, .d x1)], []⟩ := evL_go (fn := i_stamp_Text) rfl rfl _ _ _ rfl rfl
@[go_sem] theorem u_stamp_Text (orc : Orc) (dep : Nat) (s : Get) (k : Nat) (own : Bool) (args : List IOpd) : stepU cfg orc dep s ⟨some k, none, .call own n_stamp_Text args⟩ = (vals cfg s args).bind fun vs => callU orc s (some k) own n_stamp_Text vs := U_call' s k own _ args rfl
abbrev X_stamp_Back : Kx := ⟨cfg, 0, [.t 2, .t 3]⟩
theorem o_stamp_Back (x0 : D) : evL cfg n_stamp_Back 0 [.d x0] [] = go X_stamp_Back [.c c_stamp_Back] ⟨[(0, .d x0)], []⟩ := evL_go (fn := i_stamp_Back) rfl rfl _ _ _ rfl rfl
@[go_sem] theorem u_stamp_Back (orc : Orc) (dep : Nat) (s : Get) (k : Nat) (own : Bool) (args : List IOpd) : stepU cfg orc dep s ⟨some k, none, .call own n_stamp_Back args⟩ = (vals cfg s args).bind fun vs => callU orc s (some k) own n_stamp_Back vs := U_call' s k own _ args rfl
abbrev X_stamp_Nano : Kx := ⟨cfg, 0, [.t 2]⟩
theorem o_stamp_Nano (x0 : D) : evL cfg n_stamp_Nano 0 [.d x0] [] = go X_stamp_Nano [.c c_stamp_Nano] ⟨[(0, .d x0)], []⟩ := evL_go (fn := i_stamp_Nano) rfl rfl _ _ _ rfl rfl
@[go_sem] theorem u_stamp_Nano (orc : Orc) (dep : Nat) (s : Get) (k : Nat) (own : Bool) (args : List IOpd) : stepU cfg orc dep s ⟨some k, none, .call own n_stamp_Nano args⟩ = (vals cfg s args).bind fun vs => callU orc s (some k) own n_stamp_Nano vs := U_call' s k own _ args rfl
abbrev X_stamp_Date : Kx := ⟨cfg, 0, [.t 2, .t 3, .t 4]⟩
theorem o_stamp_Date (x0 : D) : evL cfg n_stamp_Date 0 [.d x0] [] = go X_stamp_Date [.c c_stamp_Date] ⟨[(0, .d x0)], []⟩ := evL_go (fn := i_stamp_Date) rfl rfl _ _ _ rfl rfl
@[go_sem] theorem u_stamp_Date (orc : Orc) (dep : Nat) (s : Get) (k : Nat) (own : Bool) (args : List IOpd) : stepU cfg orc dep s ⟨some k, none, .call own n_stamp_Date args⟩ = (vals cfg s args).bind fun vs => callU orc s (some k) own n_stamp_Date vs := U_call' s k own _ args rfl
abbrev X_stamp_Seconds : Kx := ⟨cfg, 0, [.t 12, .t 13]⟩
theorem o_stamp_Seconds (x0 x1 x2 x3 x4 x5 : D) : evL cfg n_stamp_Seconds 0 [.d x0, .d x1, .d x2, .d x3, .d x4, .d x5] [] = go X_stamp_Seconds [.c c_stamp_Seconds] ⟨[(0, .d x0), (1, .d x1), (2, .d x2), (3, .d x3), (4, .d x4), (5, .d x5)], []⟩ := evL_go (fn := i_stamp_Seconds) rfl rfl _ _ _ rfl rfl
@[go_sem] theorem u_stamp_Seconds (orc : Orc) (dep : Nat) (s : Get) (k : Nat) (own : Bool) (args : List IOpd) : stepU cfg orc dep s ⟨some k, none, .call own n_stamp_Seconds args⟩ = (vals cfg s args).bind fun vs => callU orc s (some k) own n_stamp_Seconds vs := U_call' s k own _ args rfl
abbrev X_stamp_leap : Kx := ⟨cfg, 0, [.t 2]⟩
theorem o_stamp_leap (x0 : D) : evL cfg n_stamp_leap 0 [.d x0] [] = go X_stamp_leap [.c c_stamp_leap] ⟨[(0, .d x0)], []⟩ := evL_go (fn := i_stamp_leap) rfl rfl _ _ _ rfl rfl
@[go_sem] theorem u_stamp_leap (orc : Orc) (dep : Nat) (s : Get) (k : Nat) (own : Bool) (args : List IOpd) : stepU cfg orc dep s ⟨some k, none, .call own n_stamp_leap args⟩ = (vals cfg s args).bind fun vs => callU orc s (some k) own n_stamp_leap vs := U_call' s k own _ args rfl
abbrev X_stamp_length : Kx := ⟨cfg, 0, [.t 4]⟩
theorem o_stamp_length (x0 x1 : D) : evL cfg n_stamp_length 0 [.d x0, .d x1] [] = go X_stamp_length [.c c_stamp_length] ⟨[(0, .d x0), (1, .d x1)], []⟩ := evL_go (fn := i_stamp_length) rfl rfl _ _ _ rfl rfl
@[go_sem] theorem u_stamp_length (orc : Orc) (dep : Nat) (s : Get) (k : Nat) (own : Bool) (args : List IOpd) : stepU cfg orc dep s ⟨some k, none, .call own n_stamp_length args⟩ = (vals cfg s args).bind fun vs => callU orc s (some k) own n_stamp_length vs := U_call' s k own _ args rfl
abbrev X_stamp_Days : Kx := ⟨cfg, 0, [.t 6, .t 7]⟩
theorem o_stamp_Days (x0 x1 x2 : D) : evL cfg n_stamp_Days 0 [.d x0, .d x1, .d x2] [] = go X_stamp_Days [.c c_stamp_Days] ⟨[(0, .d x0), (1, .d x1), (2, .d x2)], []⟩ := evL_go (fn := i_stamp_Days) rfl rfl _ _ _ rfl rfl
@[go_sem] theorem u_stamp_Days (orc : Orc) (dep : Nat) (s : Get) (k : Nat) (own : Bool) (args : List IOpd) : stepU cfg orc dep s ⟨some k, none, .call own n_stamp_Days args⟩ = (vals cfg s args).bind fun vs => callU orc s (some k) own n_stamp_Days vs := U_call' s k own _ args rfl
abbrev X_ingotlaw12_known : Kx := ⟨cfg, 0, [.t 0]⟩
theorem o_ingotlaw12_known : evL cfg n_ingotlaw12_known 0 [] [] = go X_ingotlaw12_known [.c c_ingotlaw12_known] ⟨[], []⟩ := evL_go (fn := i_ingotlaw12_known) rfl rfl _ _ _ rfl rfl
@[go_sem] theorem u_ingotlaw12_known (orc : Orc) (dep : Nat) (s : Get) (k : Nat) (own : Bool) (args : List IOpd) : stepU cfg orc dep s ⟨some k, none, .call own n_ingotlaw12_known args⟩ = (vals cfg s args).bind fun vs => callU orc s (some k) own n_ingotlaw12_known vs := U_call' s k own _ args rfl
abbrev X_ingotlaw12_StampNanos : Kx := ⟨cfg, 0, [.t 6]⟩
theorem o_ingotlaw12_StampNanos (x0 x1 x2 : D) : evL cfg n_ingotlaw12_StampNanos 0 [.d x0, .d x1, .d x2] [] = go X_ingotlaw12_StampNanos [.c c_ingotlaw12_StampNanos] ⟨[(0, .d x0), (1, .d x1), (2, .d x2)], []⟩ := evL_go (fn := i_ingotlaw12_StampNanos) rfl rfl _ _ _ rfl rfl
@[go_sem] theorem u_ingotlaw12_StampNanos (orc : Orc) (dep : Nat) (s : Get) (k : Nat) (own : Bool) (args : List IOpd) : stepU cfg orc dep s ⟨some k, none, .call own n_ingotlaw12_StampNanos args⟩ = (vals cfg s args).bind fun vs => callU orc s (some k) own n_ingotlaw12_StampNanos vs := U_call' s k own _ args rfl
@[go_sem] theorem u_strings_Repeat (orc : Orc) (dep : Nat) (s : Get) (k : Nat) (own : Bool) (args : List IOpd) : stepU cfg orc dep s ⟨some k, none, .call own n_strings_Repeat args⟩ = (vals cfg s args).bind fun vs => callU orc s (some k) own n_strings_Repeat vs := U_call' s k own _ args rfl
@[go_sem] theorem u_strconv_Itoa (orc : Orc) (dep : Nat) (s : Get) (k : Nat) (own : Bool) (args : List IOpd) : stepU cfg orc dep s ⟨some k, none, .call own n_strconv_Itoa args⟩ = (vals cfg s args).bind fun vs => callU orc s (some k) own n_strconv_Itoa vs := U_call' s k own _ args rfl

end Go.Proofs.YtpabdojnfiiaoaaDoor
