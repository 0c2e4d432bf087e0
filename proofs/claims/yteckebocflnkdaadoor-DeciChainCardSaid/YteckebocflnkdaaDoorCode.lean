import Derived.Test.YteckebocflnkdaaDoorL9
import Derived.Test.YteckebocflnkdaaDoorChecked
import Derived.Test.YteckebocflnkdaaDoorCodeA
namespace Go.Proofs.YteckebocflnkdaaDoor
open Go.Ev Go
variable {X : Kx} {K : List Kf} {s : St}
/-! ingot/deci.size -/
@[go_sem] def r_deci_size_0_o : List IOper := [
  ⟨(some 2), none, .asg (.c (.int .u64 0))⟩]
def r_deci_size_0 : ICode := .region r_deci_size_0_o [] [0]
@[go_sem] theorem r_deci_size_0_u : go X (.c r_deci_size_0 :: K) s = goR X r_deci_size_0_o [0] K s := go_region _ _
@[go_sem] def r_deci_size_1_o : List IOper := [
  ⟨(some 3), none, .mv (.t 0)⟩,
  ⟨(some 4), none, .bin .lss (.t 3) (.c (.int .i64 0))⟩]
def r_deci_size_1 : ICode := .region r_deci_size_1_o [] [0, 4]
@[go_sem] theorem r_deci_size_1_u : go X (.c r_deci_size_1 :: K) s = goR X r_deci_size_1_o [0, 4] K s := go_region _ _
@[go_sem] def r_deci_size_2_o : List IOper := [
  ⟨(some 5), none, .mv (.t 0)⟩,
  ⟨(some 6), none, .cvInt .u64 (.t 5)⟩,
  ⟨(some 7), none, .un .neg (.t 6)⟩,
  ⟨(some 2), none, .asg (.t 7)⟩]
def r_deci_size_2 : ICode := .region r_deci_size_2_o [] [2]
@[go_sem] theorem r_deci_size_2_u : go X (.c r_deci_size_2 :: K) s = goR X r_deci_size_2_o [2] K s := go_region _ _
@[go_sem] def r_deci_size_3_o : List IOper := [
  ⟨(some 8), none, .mv (.t 0)⟩,
  ⟨(some 9), none, .cvInt .u64 (.t 8)⟩,
  ⟨(some 2), none, .asg (.t 9)⟩]
def r_deci_size_3 : ICode := .region r_deci_size_3_o [] [2]
@[go_sem] theorem r_deci_size_3_u : go X (.c r_deci_size_3 :: K) s = goR X r_deci_size_3_o [2] K s := go_region _ _
def c_deci_size : ICode := (.seq r_deci_size_0 (.seq r_deci_size_1 (.cond (.t 4) (.seq r_deci_size_2 .ret) (.seq r_deci_size_3 .ret))))
def i_deci_size : IFunc := ⟨1, [.t 2], c_deci_size⟩
def a_deci_size : Advice := ⟨[], [(3, [2]), (2, [2]), (1, [0, 4]), (0, [0])], [], [], []⟩
/-! ingot/deci.Text -/
@[go_sem] def r_deci_Text_0_o : List IOper := [
  ⟨(some 4), none, .asg (.c (.str []))⟩]
def r_deci_Text_0 : ICode := .region r_deci_Text_0_o [] [0, 1]
@[go_sem] theorem r_deci_Text_0_u : go X (.c r_deci_Text_0 :: K) s = goR X r_deci_Text_0_o [0, 1] K s := go_region _ _
@[go_sem] def r_deci_Text_1_o : List IOper := [
  ⟨(some 9), none, .mv (.t 1)⟩,
  ⟨(some 10), none, .minmax true [(.t 9), (.c (.int .i64 0))]⟩,
  ⟨(some 11), none, .minmax false [(.t 10), (.c (.int .i64 18))]⟩,
  ⟨(some 1), none, .asg (.t 11)⟩]
def r_deci_Text_1 : ICode := .region r_deci_Text_1_o [] [0, 1]
@[go_sem] theorem r_deci_Text_1_u : go X (.c r_deci_Text_1 :: K) s = goR X r_deci_Text_1_o [0, 1] K s := go_region _ _
@[go_sem] def r_deci_Text_2_o : List IOper := [
  ⟨(some 12), none, .mv (.t 0)⟩,
  ⟨(some 13), none, .call false n_deci_size [(.t 12)]⟩,
  ⟨(some 14), none, .call false n_strconv_FormatUint [(.t 13), (.c (.int .i64 10))]⟩,
  ⟨(some 5), none, .asg (.t 14)⟩]
def r_deci_Text_2 : ICode := .region r_deci_Text_2_o [] [0, 1, 5]
@[go_sem] theorem r_deci_Text_2_u : go X (.c r_deci_Text_2 :: K) s = goR X r_deci_Text_2_o [0, 1, 5] K s := go_region _ _
@[go_sem] def r_deci_Text_3_o : List IOper := [
  ⟨(some 15), none, .mv (.t 1)⟩,
  ⟨(some 16), none, .bin .add (.t 15) (.c (.int .i64 1))⟩,
  ⟨(some 17), none, .mv (.t 5)⟩,
  ⟨(some 18), none, .len true (.t 17)⟩,
  ⟨(some 19), none, .bin .sub (.t 16) (.t 18)⟩,
  ⟨(some 6), none, .asg (.t 19)⟩]
def r_deci_Text_3 : ICode := .region r_deci_Text_3_o [] [0, 1, 5, 6]
@[go_sem] theorem r_deci_Text_3_u : go X (.c r_deci_Text_3 :: K) s = goR X r_deci_Text_3_o [0, 1, 5, 6] K s := go_region _ _
@[go_sem] def r_deci_Text_4_o : List IOper := [
  ⟨(some 20), none, .mv (.t 6)⟩,
  ⟨(some 21), none, .bin .gtr (.t 20) (.c (.int .i64 0))⟩]
def r_deci_Text_4 : ICode := .region r_deci_Text_4_o [] [0, 1, 5, 6, 21]
@[go_sem] theorem r_deci_Text_4_u : go X (.c r_deci_Text_4 :: K) s = goR X r_deci_Text_4_o [0, 1, 5, 6, 21] K s := go_region _ _
@[go_sem] def r_deci_Text_5_o : List IOper := [
  ⟨(some 22), none, .mv (.t 6)⟩,
  ⟨(some 23), none, .call false n_strings_Repeat [(.c (.str [48])), (.t 22)]⟩,
  ⟨(some 24), none, .mv (.t 5)⟩,
  ⟨(some 25), none, .bin .add (.t 23) (.t 24)⟩,
  ⟨(some 5), none, .asg (.t 25)⟩]
def r_deci_Text_5 : ICode := .region r_deci_Text_5_o [] [0, 1, 5]
@[go_sem] theorem r_deci_Text_5_u : go X (.c r_deci_Text_5 :: K) s = goR X r_deci_Text_5_o [0, 1, 5] K s := go_region _ _
@[go_sem] def r_deci_Text_6_o : List IOper := [
  ⟨(some 26), none, .mv (.t 5)⟩,
  ⟨(some 27), none, .len true (.t 26)⟩,
  ⟨(some 28), none, .mv (.t 1)⟩,
  ⟨(some 29), none, .bin .sub (.t 27) (.t 28)⟩,
  ⟨(some 7), none, .asg (.t 29)⟩]
def r_deci_Text_6 : ICode := .region r_deci_Text_6_o [] [0, 1, 5, 7]
@[go_sem] theorem r_deci_Text_6_u : go X (.c r_deci_Text_6 :: K) s = goR X r_deci_Text_6_o [0, 1, 5, 7] K s := go_region _ _
@[go_sem] def r_deci_Text_7_o : List IOper := [
  ⟨(some 30), none, .mv (.t 5)⟩,
  ⟨(some 31), none, .mv (.t 7)⟩,
  ⟨(some 32), none, .sliceS (.t 30) none (some (.t 31))⟩,
  ⟨(some 8), none, .asg (.t 32)⟩]
def r_deci_Text_7 : ICode := .region r_deci_Text_7_o [] [0, 1, 5, 7, 8]
@[go_sem] theorem r_deci_Text_7_u : go X (.c r_deci_Text_7 :: K) s = goR X r_deci_Text_7_o [0, 1, 5, 7, 8] K s := go_region _ _
@[go_sem] def r_deci_Text_8_o : List IOper := [
  ⟨(some 33), none, .mv (.t 1)⟩,
  ⟨(some 34), none, .bin .gtr (.t 33) (.c (.int .i64 0))⟩]
def r_deci_Text_8 : ICode := .region r_deci_Text_8_o [] [0, 5, 7, 8, 34]
@[go_sem] theorem r_deci_Text_8_u : go X (.c r_deci_Text_8 :: K) s = goR X r_deci_Text_8_o [0, 5, 7, 8, 34] K s := go_region _ _
@[go_sem] def r_deci_Text_9_o : List IOper := [
  ⟨(some 35), none, .mv (.t 8)⟩,
  ⟨(some 36), none, .mv (.t 5)⟩,
  ⟨(some 37), none, .mv (.t 7)⟩,
  ⟨(some 38), none, .sliceS (.t 36) (some (.t 37)) none⟩,
  ⟨(some 39), none, .bin .add (.c (.str [46])) (.t 38)⟩,
  ⟨(some 40), none, .bin .add (.t 35) (.t 39)⟩,
  ⟨(some 8), none, .asg (.t 40)⟩]
def r_deci_Text_9 : ICode := .region r_deci_Text_9_o [] [0, 8]
@[go_sem] theorem r_deci_Text_9_u : go X (.c r_deci_Text_9 :: K) s = goR X r_deci_Text_9_o [0, 8] K s := go_region _ _
@[go_sem] def r_deci_Text_10_o : List IOper := [
  ⟨(some 41), none, .mv (.t 0)⟩,
  ⟨(some 42), none, .bin .lss (.t 41) (.c (.int .i64 0))⟩]
def r_deci_Text_10 : ICode := .region r_deci_Text_10_o [] [8, 42]
@[go_sem] theorem r_deci_Text_10_u : go X (.c r_deci_Text_10 :: K) s = goR X r_deci_Text_10_o [8, 42] K s := go_region _ _
@[go_sem] def r_deci_Text_11_o : List IOper := [
  ⟨(some 43), none, .mv (.t 8)⟩,
  ⟨(some 44), none, .bin .add (.c (.str [45])) (.t 43)⟩,
  ⟨(some 8), none, .asg (.t 44)⟩]
def r_deci_Text_11 : ICode := .region r_deci_Text_11_o [] [8]
@[go_sem] theorem r_deci_Text_11_u : go X (.c r_deci_Text_11 :: K) s = goR X r_deci_Text_11_o [8] K s := go_region _ _
@[go_sem] def r_deci_Text_12_o : List IOper := [
  ⟨(some 45), none, .mv (.t 8)⟩,
  ⟨(some 4), none, .asg (.t 45)⟩]
def r_deci_Text_12 : ICode := .region r_deci_Text_12_o [] [4]
@[go_sem] theorem r_deci_Text_12_u : go X (.c r_deci_Text_12 :: K) s = goR X r_deci_Text_12_o [4] K s := go_region _ _
def c_deci_Text : ICode := (.seq r_deci_Text_0 (.seq r_deci_Text_1 (.seq r_deci_Text_2 (.seq (.seq r_deci_Text_3 (.seq r_deci_Text_4 (.cond (.t 21) r_deci_Text_5 .skip))) (.seq r_deci_Text_6 (.seq r_deci_Text_7 (.seq (.seq r_deci_Text_8 (.cond (.t 34) r_deci_Text_9 .skip)) (.seq (.seq r_deci_Text_10 (.cond (.t 42) r_deci_Text_11 .skip)) (.seq r_deci_Text_12 .ret)))))))))
def i_deci_Text : IFunc := ⟨2, [.t 4], c_deci_Text⟩
def a_deci_Text : Advice := ⟨[], [(12, [4]), (11, [8]), (10, [8, 42]), (9, [0, 8]), (8, [0, 5, 7, 8, 34]), (7, [0, 1, 5, 7, 8]), (6, [0, 1, 5, 7]), (5, [0, 1, 5]), (4, [0, 1, 5, 6, 21]), (3, [0, 1, 5, 6]), (2, [0, 1, 5]), (1, [0, 1]), (0, [0, 1])], [], [], []⟩
/-! ingot/deci.power -/
@[go_sem] def r_deci_power_0_o : List IOper := [
  ⟨(some 2), none, .asg (.c (.int .i64 0))⟩]
def r_deci_power_0 : ICode := .region r_deci_power_0_o [] [0]
@[go_sem] theorem r_deci_power_0_u : go X (.c r_deci_power_0 :: K) s = goR X r_deci_power_0_o [0] K s := go_region _ _
@[go_sem] def r_deci_power_1_o : List IOper := [
  ⟨(some 3), none, .asg (.c (.int .i64 1))⟩]
def r_deci_power_1 : ICode := .region r_deci_power_1_o [] [0, 3]
@[go_sem] theorem r_deci_power_1_u : go X (.c r_deci_power_1 :: K) s = goR X r_deci_power_1_o [0, 3] K s := go_region _ _
@[go_sem] def r_deci_power_2_o : List IOper := [
  ⟨(some 4), none, .mv (.t 0)⟩,
  ⟨(some 5), none, .mv (.c (.int .i64 0))⟩]
def r_deci_power_2 : ICode := .region r_deci_power_2_o [] [3, 4, 5]
@[go_sem] theorem r_deci_power_2_u : go X (.c r_deci_power_2 :: K) s = goR X r_deci_power_2_o [3, 4, 5] K s := go_region _ _
@[go_sem] def r_deci_power_3_o : List IOper := [
  ⟨(some 6), none, .bin .lss (.t 5) (.t 4)⟩]
def r_deci_power_3 : ICode := .region r_deci_power_3_o [] [3, 4, 5, 6]
@[go_sem] theorem r_deci_power_3_u : go X (.c r_deci_power_3 :: K) s = goR X r_deci_power_3_o [3, 4, 5, 6] K s := go_region _ _
@[go_sem] def r_deci_power_4_o : List IOper := [
  ⟨(some 7), none, .mv (.t 3)⟩,
  ⟨(some 8), none, .bin .mul (.t 7) (.c (.int .i64 10))⟩,
  ⟨(some 3), none, .asg (.t 8)⟩]
def r_deci_power_4 : ICode := .region r_deci_power_4_o [] [3, 4, 5]
@[go_sem] theorem r_deci_power_4_u : go X (.c r_deci_power_4 :: K) s = goR X r_deci_power_4_o [3, 4, 5] K s := go_region _ _
@[go_sem] def r_deci_power_5_o : List IOper := [
  ⟨(some 9), none, .bin .add (.t 5) (.c (.int .i64 1))⟩,
  ⟨(some 5), none, .mv (.t 9)⟩]
def r_deci_power_5 : ICode := .region r_deci_power_5_o [] [3, 4, 5]
@[go_sem] theorem r_deci_power_5_u : go X (.c r_deci_power_5 :: K) s = goR X r_deci_power_5_o [3, 4, 5] K s := go_region _ _
def b_deci_power_6 : ICode := (.seq r_deci_power_3 (.seq (.cond (.t 6) .skip (.exit 0)) (.seq (.block 1 r_deci_power_4) r_deci_power_5)))
@[go_sem] theorem b_deci_power_6_u : go X (.c b_deci_power_6 :: K) s = go X (.c (.seq r_deci_power_3 (.seq (.cond (.t 6) .skip (.exit 0)) (.seq (.block 1 r_deci_power_4) r_deci_power_5))) :: K) s := rfl
@[go_sem] def r_deci_power_7_o : List IOper := [
  ⟨(some 10), none, .mv (.t 3)⟩,
  ⟨(some 2), none, .asg (.t 10)⟩]
def r_deci_power_7 : ICode := .region r_deci_power_7_o [] [2]
@[go_sem] theorem r_deci_power_7_u : go X (.c r_deci_power_7 :: K) s = goR X r_deci_power_7_o [2] K s := go_region _ _
def c_deci_power : ICode := (.seq r_deci_power_0 (.seq r_deci_power_1 (.seq (.seq r_deci_power_2 (.block 0 (.loop b_deci_power_6))) (.seq r_deci_power_7 .ret))))
def i_deci_power : IFunc := ⟨1, [.t 2], c_deci_power⟩
def a_deci_power : Advice := ⟨[], [(6, [2]), (5, [3, 4, 5]), (4, [3, 4, 5]), (3, [3, 4, 5, 6]), (2, [3, 4, 5]), (1, [0, 3]), (0, [0])], [], [], []⟩
/-! ingot/deci.Rescale -/
@[go_sem] def r_deci_Rescale_0_o : List IOper := [
  ⟨(some 6), none, .asg (.c (.int .i64 0))⟩,
  ⟨(some 7), none, .asg (.c (.bool false))⟩]
def r_deci_Rescale_0 : ICode := .region r_deci_Rescale_0_o [] [0, 1, 2]
@[go_sem] theorem r_deci_Rescale_0_u : go X (.c r_deci_Rescale_0 :: K) s = goR X r_deci_Rescale_0_o [0, 1, 2] K s := go_region _ _
@[go_sem] def r_deci_Rescale_1_o : List IOper := [
  ⟨(some 9), none, .mv (.t 1)⟩,
  ⟨(some 10), none, .minmax true [(.t 9), (.c (.int .i64 0))]⟩,
  ⟨(some 11), none, .minmax false [(.t 10), (.c (.int .i64 18))]⟩,
  ⟨(some 12), none, .mv (.t 2)⟩,
  ⟨(some 13), none, .minmax true [(.t 12), (.c (.int .i64 0))]⟩,
  ⟨(some 14), none, .minmax false [(.t 13), (.c (.int .i64 18))]⟩,
  ⟨(some 1), none, .asg (.t 11)⟩,
  ⟨(some 2), none, .asg (.t 14)⟩]
def r_deci_Rescale_1 : ICode := .region r_deci_Rescale_1_o [] [0, 1, 2]
@[go_sem] theorem r_deci_Rescale_1_u : go X (.c r_deci_Rescale_1 :: K) s = goR X r_deci_Rescale_1_o [0, 1, 2] K s := go_region _ _
@[go_sem] def r_deci_Rescale_2_o : List IOper := [
  ⟨(some 15), none, .mv (.t 2)⟩,
  ⟨(some 16), none, .mv (.t 1)⟩,
  ⟨(some 17), none, .bin .geq (.t 15) (.t 16)⟩]
def r_deci_Rescale_2 : ICode := .region r_deci_Rescale_2_o [] [0, 1, 2, 17]
@[go_sem] theorem r_deci_Rescale_2_u : go X (.c r_deci_Rescale_2 :: K) s = goR X r_deci_Rescale_2_o [0, 1, 2, 17] K s := go_region _ _
@[go_sem] def r_deci_Rescale_3_o : List IOper := [
  ⟨(some 18), none, .mv (.t 0)⟩,
  ⟨(some 19), none, .mv (.t 2)⟩,
  ⟨(some 20), none, .mv (.t 1)⟩,
  ⟨(some 21), none, .bin .sub (.t 19) (.t 20)⟩,
  ⟨(some 22), none, .call false n_deci_power [(.t 21)]⟩,
  ⟨(some 23), none, .call false n_nums_Mul [(.t 18), (.t 22)]⟩,
  ⟨(some 24), none, .ext (.t 23) 0⟩,
  ⟨(some 25), none, .ext (.t 23) 1⟩,
  ⟨(some 6), none, .asg (.t 24)⟩,
  ⟨(some 7), none, .asg (.t 25)⟩]
def r_deci_Rescale_3 : ICode := .region r_deci_Rescale_3_o [] [6, 7]
@[go_sem] theorem r_deci_Rescale_3_u : go X (.c r_deci_Rescale_3 :: K) s = goR X r_deci_Rescale_3_o [6, 7] K s := go_region _ _
@[go_sem] def r_deci_Rescale_4_o : List IOper := [
  ⟨(some 26), none, .mv (.t 1)⟩,
  ⟨(some 27), none, .mv (.t 2)⟩,
  ⟨(some 28), none, .bin .sub (.t 26) (.t 27)⟩,
  ⟨(some 29), none, .call false n_deci_power [(.t 28)]⟩,
  ⟨(some 8), none, .asg (.t 29)⟩]
def r_deci_Rescale_4 : ICode := .region r_deci_Rescale_4_o [] [0, 8]
@[go_sem] theorem r_deci_Rescale_4_u : go X (.c r_deci_Rescale_4 :: K) s = goR X r_deci_Rescale_4_o [0, 8] K s := go_region _ _
@[go_sem] def r_deci_Rescale_5_o : List IOper := [
  ⟨(some 30), none, .mv (.t 0)⟩,
  ⟨(some 31), none, .mv (.t 8)⟩,
  ⟨(some 32), none, .bin .rem (.t 30) (.t 31)⟩,
  ⟨(some 33), none, .bin .neq (.t 32) (.c (.int .i64 0))⟩]
def r_deci_Rescale_5 : ICode := .region r_deci_Rescale_5_o [] [0, 8, 33]
@[go_sem] theorem r_deci_Rescale_5_u : go X (.c r_deci_Rescale_5 :: K) s = goR X r_deci_Rescale_5_o [0, 8, 33] K s := go_region _ _
@[go_sem] def r_deci_Rescale_6_o : List IOper := [
  ⟨(some 6), none, .asg (.c (.int .i64 0))⟩,
  ⟨(some 7), none, .asg (.c (.bool false))⟩]
def r_deci_Rescale_6 : ICode := .region r_deci_Rescale_6_o [] [6, 7]
@[go_sem] theorem r_deci_Rescale_6_u : go X (.c r_deci_Rescale_6 :: K) s = goR X r_deci_Rescale_6_o [6, 7] K s := go_region _ _
@[go_sem] def r_deci_Rescale_7_o : List IOper := [
  ⟨(some 34), none, .mv (.t 0)⟩,
  ⟨(some 35), none, .mv (.t 8)⟩,
  ⟨(some 36), none, .bin .quo (.t 34) (.t 35)⟩,
  ⟨(some 6), none, .asg (.t 36)⟩,
  ⟨(some 7), none, .asg (.c (.bool true))⟩]
def r_deci_Rescale_7 : ICode := .region r_deci_Rescale_7_o [] [6, 7]
@[go_sem] theorem r_deci_Rescale_7_u : go X (.c r_deci_Rescale_7 :: K) s = goR X r_deci_Rescale_7_o [6, 7] K s := go_region _ _
def c_deci_Rescale : ICode := (.seq r_deci_Rescale_0 (.seq r_deci_Rescale_1 (.seq r_deci_Rescale_2 (.cond (.t 17) (.seq r_deci_Rescale_3 .ret) (.seq r_deci_Rescale_4 (.seq r_deci_Rescale_5 (.cond (.t 33) (.seq r_deci_Rescale_6 .ret) (.seq r_deci_Rescale_7 .ret))))))))
def i_deci_Rescale : IFunc := ⟨3, [.t 6, .t 7], c_deci_Rescale⟩
def a_deci_Rescale : Advice := ⟨[], [(7, [6, 7]), (6, [6, 7]), (5, [0, 8, 33]), (4, [0, 8]), (3, [6, 7]), (2, [0, 1, 2, 17]), (1, [0, 1, 2]), (0, [0, 1, 2])], [], [], []⟩
/-! ingot/nums.Zag -/
@[go_sem] def r_nums_Zag_0_o : List IOper := [
  ⟨(some 2), none, .asg (.c (.int .i64 0))⟩]
def r_nums_Zag_0 : ICode := .region r_nums_Zag_0_o [] [0]
@[go_sem] theorem r_nums_Zag_0_u : go X (.c r_nums_Zag_0 :: K) s = goR X r_nums_Zag_0_o [0] K s := go_region _ _
@[go_sem] def r_nums_Zag_1_o : List IOper := [
  ⟨(some 3), none, .mv (.t 0)⟩,
  ⟨(some 4), none, .bin .shr (.t 3) (.c (.int .u64 1))⟩,
  ⟨(some 5), none, .cvInt .i64 (.t 4)⟩,
  ⟨(some 6), none, .mv (.t 0)⟩,
  ⟨(some 7), none, .bin .and (.t 6) (.c (.int .u64 1))⟩,
  ⟨(some 8), none, .cvInt .i64 (.t 7)⟩,
  ⟨(some 9), none, .un .neg (.t 8)⟩,
  ⟨(some 10), none, .bin .xor (.t 5) (.t 9)⟩,
  ⟨(some 2), none, .asg (.t 10)⟩]
def r_nums_Zag_1 : ICode := .region r_nums_Zag_1_o [] [2]
@[go_sem] theorem r_nums_Zag_1_u : go X (.c r_nums_Zag_1 :: K) s = goR X r_nums_Zag_1_o [2] K s := go_region _ _
def c_nums_Zag : ICode := (.seq r_nums_Zag_0 (.seq r_nums_Zag_1 .ret))
def i_nums_Zag : IFunc := ⟨1, [.t 2], c_nums_Zag⟩
def a_nums_Zag : Advice := ⟨[], [(1, [2]), (0, [0])], [], [], []⟩
/-! ingot/nums.Var -/
@[go_sem] def r_nums_Var_0_o : List IOper := [
  ⟨(some 4), none, .asg (.c (.int .u64 0))⟩,
  ⟨(some 5), none, .asg (.c (.int .i64 0))⟩,
  ⟨(some 6), none, .asg (.c (.int .i64 0))⟩]
def r_nums_Var_0 : ICode := .region r_nums_Var_0_o [] [0, 1, 4]
@[go_sem] theorem r_nums_Var_0_u : go X (.c r_nums_Var_0 :: K) s = goR X r_nums_Var_0_o [0, 1, 4] K s := go_region _ _
@[go_sem] def r_nums_Var_1_o : List IOper := [
  ⟨(some 9), none, .mv (.t 1)⟩,
  ⟨(some 10), none, .bin .lss (.t 9) (.c (.int .i64 0))⟩,
  ⟨(some 11), none, .mv (.t 10)⟩,
  ⟨(some 12), some (11, false), .mv (.t 1)⟩,
  ⟨(some 13), some (11, false), .mv (.t 0)⟩,
  ⟨(some 14), some (11, false), .len false (.t 13)⟩,
  ⟨(some 15), some (11, false), .bin .gtr (.t 12) (.t 14)⟩,
  ⟨(some 16), none, .pick (.t 11) (.c (.bool true)) (.t 15)⟩]
def r_nums_Var_1 : ICode := .region r_nums_Var_1_o [] [0, 1, 4, 16]
@[go_sem] theorem r_nums_Var_1_u : go X (.c r_nums_Var_1 :: K) s = goR X r_nums_Var_1_o [0, 1, 4, 16] K s := go_region _ _
@[go_sem] def r_nums_Var_2_o : List IOper := [
  ⟨(some 4), none, .asg (.c (.int .u64 0))⟩,
  ⟨(some 5), none, .asg (.c (.int .i64 0))⟩,
  ⟨(some 6), none, .asg (.c (.int .i64 1))⟩]
def r_nums_Var_2 : ICode := .region r_nums_Var_2_o [] [4, 5, 6]
@[go_sem] theorem r_nums_Var_2_u : go X (.c r_nums_Var_2 :: K) s = goR X r_nums_Var_2_o [4, 5, 6] K s := go_region _ _
@[go_sem] def r_nums_Var_3_o : List IOper := [
  ⟨(some 17), none, .mv (.t 0)⟩,
  ⟨(some 18), none, .mv (.t 1)⟩,
  ⟨(some 19), none, .slice 1 (.t 17) (some (.t 18)) none none⟩,
  ⟨(some 20), none, .len false (.t 19)⟩,
  ⟨(some 21), none, .mv (.c (.int .i64 0))⟩]
def r_nums_Var_3 : ICode := .region r_nums_Var_3_o [] [4, 19, 20, 21]
@[go_sem] theorem r_nums_Var_3_u : go X (.c r_nums_Var_3 :: K) s = goR X r_nums_Var_3_o [4, 19, 20, 21] K s := go_region _ _
@[go_sem] def r_nums_Var_4_o : List IOper := [
  ⟨(some 22), none, .bin .lss (.t 21) (.t 20)⟩]
def r_nums_Var_4 : ICode := .region r_nums_Var_4_o [] [4, 19, 20, 21, 22]
@[go_sem] theorem r_nums_Var_4_u : go X (.c r_nums_Var_4 :: K) s = goR X r_nums_Var_4_o [4, 19, 20, 21, 22] K s := go_region _ _
@[go_sem] def r_nums_Var_5_o : List IOper := [
  ⟨(some 23), none, .mv (.t 21)⟩,
  ⟨(some 24), none, .idxA 1 (.t 19) (.t 21)⟩,
  ⟨(some 25), none, .load none (.t 24)⟩,
  ⟨(some 7), none, .asg (.t 23)⟩,
  ⟨(some 8), none, .asg (.t 25)⟩]
def r_nums_Var_5 : ICode := .region r_nums_Var_5_o [] [4, 7, 8, 19, 20, 21]
@[go_sem] theorem r_nums_Var_5_u : go X (.c r_nums_Var_5 :: K) s = goR X r_nums_Var_5_o [4, 7, 8, 19, 20, 21] K s := go_region _ _
@[go_sem] def r_nums_Var_6_o : List IOper := [
  ⟨(some 26), none, .mv (.t 7)⟩,
  ⟨(some 27), none, .bin .eql (.t 26) (.c (.int .i64 9))⟩,
  ⟨(some 28), none, .mv (.t 27)⟩,
  ⟨(some 29), some (28, true), .mv (.t 8)⟩,
  ⟨(some 30), some (28, true), .bin .gtr (.t 29) (.c (.int .u8 1))⟩,
  ⟨(some 31), none, .pick (.t 28) (.t 30) (.c (.bool false))⟩]
def r_nums_Var_6 : ICode := .region r_nums_Var_6_o [] [4, 7, 8, 19, 20, 21, 31]
@[go_sem] theorem r_nums_Var_6_u : go X (.c r_nums_Var_6 :: K) s = goR X r_nums_Var_6_o [4, 7, 8, 19, 20, 21, 31] K s := go_region _ _
@[go_sem] def r_nums_Var_7_o : List IOper := [
  ⟨(some 4), none, .asg (.c (.int .u64 0))⟩,
  ⟨(some 5), none, .asg (.c (.int .i64 0))⟩,
  ⟨(some 6), none, .asg (.c (.int .i64 4))⟩]
def r_nums_Var_7 : ICode := .region r_nums_Var_7_o [] [4, 5, 6]
@[go_sem] theorem r_nums_Var_7_u : go X (.c r_nums_Var_7 :: K) s = goR X r_nums_Var_7_o [4, 5, 6] K s := go_region _ _
@[go_sem] def r_nums_Var_8_o : List IOper := [
  ⟨(some 32), none, .mv (.t 4)⟩,
  ⟨(some 33), none, .mv (.t 8)⟩,
  ⟨(some 34), none, .bin .andNot (.t 33) (.c (.int .u8 128))⟩,
  ⟨(some 35), none, .cvInt .u64 (.t 34)⟩,
  ⟨(some 36), none, .mv (.t 7)⟩,
  ⟨(some 37), none, .bin .mul (.c (.int .i64 7)) (.t 36)⟩,
  ⟨(some 38), none, .bin .shl (.t 35) (.t 37)⟩,
  ⟨(some 39), none, .bin .or (.t 32) (.t 38)⟩,
  ⟨(some 4), none, .asg (.t 39)⟩]
def r_nums_Var_8 : ICode := .region r_nums_Var_8_o [] [4, 7, 8, 19, 20, 21]
@[go_sem] theorem r_nums_Var_8_u : go X (.c r_nums_Var_8 :: K) s = goR X r_nums_Var_8_o [4, 7, 8, 19, 20, 21] K s := go_region _ _
@[go_sem] def r_nums_Var_9_o : List IOper := [
  ⟨(some 40), none, .mv (.t 8)⟩,
  ⟨(some 41), none, .bin .lss (.t 40) (.c (.int .u8 128))⟩]
def r_nums_Var_9 : ICode := .region r_nums_Var_9_o [] [4, 7, 19, 20, 21, 41]
@[go_sem] theorem r_nums_Var_9_u : go X (.c r_nums_Var_9 :: K) s = goR X r_nums_Var_9_o [4, 7, 19, 20, 21, 41] K s := go_region _ _
@[go_sem] def r_nums_Var_10_o : List IOper := [
  ⟨(some 42), none, .mv (.t 4)⟩,
  ⟨(some 43), none, .mv (.t 7)⟩,
  ⟨(some 44), none, .bin .add (.t 43) (.c (.int .i64 1))⟩,
  ⟨(some 4), none, .asg (.t 42)⟩,
  ⟨(some 5), none, .asg (.t 44)⟩,
  ⟨(some 6), none, .asg (.c (.int .i64 0))⟩]
def r_nums_Var_10 : ICode := .region r_nums_Var_10_o [] [4, 5, 6]
@[go_sem] theorem r_nums_Var_10_u : go X (.c r_nums_Var_10 :: K) s = goR X r_nums_Var_10_o [4, 5, 6] K s := go_region _ _
@[go_sem] def r_nums_Var_11_o : List IOper := [
  ⟨(some 45), none, .bin .add (.t 21) (.c (.int .i64 1))⟩,
  ⟨(some 21), none, .mv (.t 45)⟩]
def r_nums_Var_11 : ICode := .region r_nums_Var_11_o [] [4, 19, 20, 21]
@[go_sem] theorem r_nums_Var_11_u : go X (.c r_nums_Var_11 :: K) s = goR X r_nums_Var_11_o [4, 19, 20, 21] K s := go_region _ _
def b_nums_Var_12 : ICode := (.seq r_nums_Var_4 (.seq (.cond (.t 22) .skip (.exit 0)) (.seq (.block 1 (.seq r_nums_Var_5 (.seq (.seq r_nums_Var_6 (.cond (.t 31) (.seq r_nums_Var_7 .ret) .skip)) (.seq r_nums_Var_8 (.seq r_nums_Var_9 (.cond (.t 41) (.seq r_nums_Var_10 .ret) .skip)))))) r_nums_Var_11)))
@[go_sem] theorem b_nums_Var_12_u : go X (.c b_nums_Var_12 :: K) s = go X (.c (.seq r_nums_Var_4 (.seq (.cond (.t 22) .skip (.exit 0)) (.seq (.block 1 (.seq r_nums_Var_5 (.seq (.seq r_nums_Var_6 (.cond (.t 31) (.seq r_nums_Var_7 .ret) .skip)) (.seq r_nums_Var_8 (.seq r_nums_Var_9 (.cond (.t 41) (.seq r_nums_Var_10 .ret) .skip)))))) r_nums_Var_11))) :: K) s := rfl
@[go_sem] def r_nums_Var_13_o : List IOper := [
  ⟨(some 4), none, .asg (.c (.int .u64 0))⟩,
  ⟨(some 5), none, .asg (.c (.int .i64 0))⟩,
  ⟨(some 6), none, .asg (.c (.int .i64 3))⟩]
def r_nums_Var_13 : ICode := .region r_nums_Var_13_o [] [4, 5, 6]
@[go_sem] theorem r_nums_Var_13_u : go X (.c r_nums_Var_13 :: K) s = goR X r_nums_Var_13_o [4, 5, 6] K s := go_region _ _
def c_nums_Var : ICode := (.seq r_nums_Var_0 (.seq r_nums_Var_1 (.cond (.t 16) (.seq r_nums_Var_2 .ret) (.seq (.seq r_nums_Var_3 (.block 0 (.loop b_nums_Var_12))) (.seq r_nums_Var_13 .ret)))))
def i_nums_Var : IFunc := ⟨2, [.t 4, .t 5, .t 6], c_nums_Var⟩
def a_nums_Var : Advice := ⟨[], [(12, [4, 5, 6]), (11, [4, 19, 20, 21]), (10, [4, 5, 6]), (9, [4, 7, 19, 20, 21, 41]), (8, [4, 7, 8, 19, 20, 21]), (7, [4, 5, 6]), (6, [4, 7, 8, 19, 20, 21, 31]), (5, [4, 7, 8, 19, 20, 21]), (4, [4, 19, 20, 21, 22]), (3, [4, 19, 20, 21]), (2, [4, 5, 6]), (1, [0, 1, 4, 16]), (0, [0, 1, 4])], [], [], []⟩
/-! ingot/deci.Decode -/
@[go_sem] def r_deci_Decode_0_o : List IOper := [
  ⟨(some 4), none, .asg (.c .nilS)⟩,
  ⟨(some 5), none, .asg (.c (.int .i64 0))⟩]
def r_deci_Decode_0 : ICode := .region r_deci_Decode_0_o [] [0, 1]
@[go_sem] theorem r_deci_Decode_0_u : go X (.c r_deci_Decode_0 :: K) s = goR X r_deci_Decode_0_o [0, 1] K s := go_region _ _
@[go_sem] def r_deci_Decode_1_o : List IOper := [
  ⟨(some 11), none, .mv (.t 1)⟩,
  ⟨(some 12), none, .bin .lss (.t 11) (.c (.int .i64 0))⟩,
  ⟨(some 13), none, .mv (.t 12)⟩,
  ⟨(some 14), some (13, false), .mv (.t 1)⟩,
  ⟨(some 15), some (13, false), .bin .gtr (.t 14) (.c (.int .i64 16384))⟩,
  ⟨(some 16), none, .pick (.t 13) (.c (.bool true)) (.t 15)⟩]
def r_deci_Decode_1 : ICode := .region r_deci_Decode_1_o [] [0, 1, 16]
@[go_sem] theorem r_deci_Decode_1_u : go X (.c r_deci_Decode_1 :: K) s = goR X r_deci_Decode_1_o [0, 1, 16] K s := go_region _ _
@[go_sem] def r_deci_Decode_2_o : List IOper := [
  ⟨(some 4), none, .asg (.c .nilS)⟩,
  ⟨(some 5), none, .asg (.c (.int .i64 1))⟩]
def r_deci_Decode_2 : ICode := .region r_deci_Decode_2_o [] [4, 5]
@[go_sem] theorem r_deci_Decode_2_u : go X (.c r_deci_Decode_2 :: K) s = goR X r_deci_Decode_2_o [4, 5] K s := go_region _ _
@[go_sem] def r_deci_Decode_3_o : List IOper := [
  ⟨(some 6), none, .asg (.c .nilS)⟩]
def r_deci_Decode_3 : ICode := .region r_deci_Decode_3_o [] [0, 1, 6]
@[go_sem] theorem r_deci_Decode_3_u : go X (.c r_deci_Decode_3 :: K) s = goR X r_deci_Decode_3_o [0, 1, 6] K s := go_region _ _
@[go_sem] def r_deci_Decode_4_o : List IOper := [
  ⟨(some 7), none, .asg (.c (.int .i64 0))⟩]
def r_deci_Decode_4 : ICode := .region r_deci_Decode_4_o [] [0, 1, 6, 7]
@[go_sem] theorem r_deci_Decode_4_u : go X (.c r_deci_Decode_4 :: K) s = goR X r_deci_Decode_4_o [0, 1, 6, 7] K s := go_region _ _
@[go_sem] def r_deci_Decode_5_o : List IOper := [
  ⟨(some 17), none, .mv (.t 1)⟩,
  ⟨(some 18), none, .mv (.c (.int .i64 0))⟩]
def r_deci_Decode_5 : ICode := .region r_deci_Decode_5_o [] [0, 6, 7, 17, 18]
@[go_sem] theorem r_deci_Decode_5_u : go X (.c r_deci_Decode_5 :: K) s = goR X r_deci_Decode_5_o [0, 6, 7, 17, 18] K s := go_region _ _
@[go_sem] def r_deci_Decode_6_o : List IOper := [
  ⟨(some 19), none, .bin .lss (.t 18) (.t 17)⟩]
def r_deci_Decode_6 : ICode := .region r_deci_Decode_6_o [] [0, 6, 7, 17, 18, 19]
@[go_sem] theorem r_deci_Decode_6_u : go X (.c r_deci_Decode_6 :: K) s = goR X r_deci_Decode_6_o [0, 6, 7, 17, 18, 19] K s := go_region _ _
@[go_sem] def r_deci_Decode_7_o : List IOper := [
  ⟨(some 21), none, .mv (.t 0)⟩,
  ⟨(some 22), none, .mv (.t 7)⟩,
  ⟨(some 23), none, .call false n_nums_Var [(.t 21), (.t 22)]⟩,
  ⟨(some 20), none, .mv (.t 23)⟩,
  ⟨(some 24), none, .ext (.t 20) 0⟩,
  ⟨(some 25), none, .ext (.t 20) 1⟩,
  ⟨(some 26), none, .ext (.t 20) 2⟩,
  ⟨(some 8), none, .asg (.t 24)⟩,
  ⟨(some 9), none, .asg (.t 25)⟩,
  ⟨(some 10), none, .asg (.t 26)⟩]
def r_deci_Decode_7 : ICode := .region r_deci_Decode_7_o [] [0, 6, 7, 8, 9, 10, 17, 18]
@[go_sem] theorem r_deci_Decode_7_u : go X (.c r_deci_Decode_7 :: K) s = goR X r_deci_Decode_7_o [0, 6, 7, 8, 9, 10, 17, 18] K s := go_region _ _
@[go_sem] def r_deci_Decode_8_o : List IOper := [
  ⟨(some 27), none, .mv (.t 10)⟩,
  ⟨(some 28), none, .bin .neq (.t 27) (.c (.int .i64 0))⟩]
def r_deci_Decode_8 : ICode := .region r_deci_Decode_8_o [] [0, 6, 7, 8, 9, 10, 17, 18, 28]
@[go_sem] theorem r_deci_Decode_8_u : go X (.c r_deci_Decode_8 :: K) s = goR X r_deci_Decode_8_o [0, 6, 7, 8, 9, 10, 17, 18, 28] K s := go_region _ _
@[go_sem] def r_deci_Decode_9_o : List IOper := [
  ⟨(some 29), none, .mv (.t 10)⟩,
  ⟨(some 4), none, .asg (.c .nilS)⟩,
  ⟨(some 5), none, .asg (.t 29)⟩]
def r_deci_Decode_9 : ICode := .region r_deci_Decode_9_o [] [4, 5]
@[go_sem] theorem r_deci_Decode_9_u : go X (.c r_deci_Decode_9 :: K) s = goR X r_deci_Decode_9_o [4, 5] K s := go_region _ _
@[go_sem] def r_deci_Decode_10_o : List IOper := [
  ⟨(some 30), none, .mv (.t 6)⟩,
  ⟨(some 31), none, .mv (.t 8)⟩,
  ⟨(some 32), none, .call false n_nums_Zag [(.t 31)]⟩,
  ⟨(some 33), none, .lit false 1 1 (.int .i64 0) [(0, (.t 32))]⟩,
  ⟨(some 34), none, .append 1 8 (.t 30) (.t 33)⟩,
  ⟨(some 6), none, .asg (.t 34)⟩]
def r_deci_Decode_10 : ICode := .region r_deci_Decode_10_o [] [0, 6, 7, 9, 17, 18]
@[go_sem] theorem r_deci_Decode_10_u : go X (.c r_deci_Decode_10 :: K) s = goR X r_deci_Decode_10_o [0, 6, 7, 9, 17, 18] K s := go_region _ _
@[go_sem] def r_deci_Decode_11_o : List IOper := [
  ⟨(some 35), none, .mv (.t 7)⟩,
  ⟨(some 36), none, .mv (.t 9)⟩,
  ⟨(some 37), none, .bin .add (.t 35) (.t 36)⟩,
  ⟨(some 7), none, .asg (.t 37)⟩]
def r_deci_Decode_11 : ICode := .region r_deci_Decode_11_o [] [0, 6, 7, 17, 18]
@[go_sem] theorem r_deci_Decode_11_u : go X (.c r_deci_Decode_11 :: K) s = goR X r_deci_Decode_11_o [0, 6, 7, 17, 18] K s := go_region _ _
@[go_sem] def r_deci_Decode_12_o : List IOper := [
  ⟨(some 38), none, .bin .add (.t 18) (.c (.int .i64 1))⟩,
  ⟨(some 18), none, .mv (.t 38)⟩]
def r_deci_Decode_12 : ICode := .region r_deci_Decode_12_o [] [0, 6, 7, 17, 18]
@[go_sem] theorem r_deci_Decode_12_u : go X (.c r_deci_Decode_12 :: K) s = goR X r_deci_Decode_12_o [0, 6, 7, 17, 18] K s := go_region _ _
def b_deci_Decode_13 : ICode := (.seq r_deci_Decode_6 (.seq (.cond (.t 19) .skip (.exit 0)) (.seq (.block 1 (.seq r_deci_Decode_7 (.seq (.seq r_deci_Decode_8 (.cond (.t 28) (.seq r_deci_Decode_9 .ret) .skip)) (.seq r_deci_Decode_10 r_deci_Decode_11)))) r_deci_Decode_12)))
@[go_sem] theorem b_deci_Decode_13_u : go X (.c b_deci_Decode_13 :: K) s = go X (.c (.seq r_deci_Decode_6 (.seq (.cond (.t 19) .skip (.exit 0)) (.seq (.block 1 (.seq r_deci_Decode_7 (.seq (.seq r_deci_Decode_8 (.cond (.t 28) (.seq r_deci_Decode_9 .ret) .skip)) (.seq r_deci_Decode_10 r_deci_Decode_11)))) r_deci_Decode_12))) :: K) s := rfl
@[go_sem] def r_deci_Decode_14_o : List IOper := [
  ⟨(some 39), none, .mv (.t 7)⟩,
  ⟨(some 40), none, .mv (.t 0)⟩,
  ⟨(some 41), none, .len false (.t 40)⟩,
  ⟨(some 42), none, .bin .lss (.t 39) (.t 41)⟩]
def r_deci_Decode_14 : ICode := .region r_deci_Decode_14_o [] [6, 42]
@[go_sem] theorem r_deci_Decode_14_u : go X (.c r_deci_Decode_14 :: K) s = goR X r_deci_Decode_14_o [6, 42] K s := go_region _ _
@[go_sem] def r_deci_Decode_15_o : List IOper := [
  ⟨(some 4), none, .asg (.c .nilS)⟩,
  ⟨(some 5), none, .asg (.c (.int .i64 2))⟩]
def r_deci_Decode_15 : ICode := .region r_deci_Decode_15_o [] [4, 5]
@[go_sem] theorem r_deci_Decode_15_u : go X (.c r_deci_Decode_15 :: K) s = goR X r_deci_Decode_15_o [4, 5] K s := go_region _ _
@[go_sem] def r_deci_Decode_16_o : List IOper := [
  ⟨(some 43), none, .mv (.t 6)⟩,
  ⟨(some 44), none, .call false n_slices_Clip_Sint64_int64 [(.t 43)]⟩,
  ⟨(some 4), none, .asg (.t 44)⟩,
  ⟨(some 5), none, .asg (.c (.int .i64 0))⟩]
def r_deci_Decode_16 : ICode := .region r_deci_Decode_16_o [] [4, 5]
@[go_sem] theorem r_deci_Decode_16_u : go X (.c r_deci_Decode_16 :: K) s = goR X r_deci_Decode_16_o [4, 5] K s := go_region _ _
def c_deci_Decode : ICode := (.seq r_deci_Decode_0 (.seq r_deci_Decode_1 (.cond (.t 16) (.seq r_deci_Decode_2 .ret) (.seq r_deci_Decode_3 (.seq r_deci_Decode_4 (.seq (.seq r_deci_Decode_5 (.block 0 (.loop b_deci_Decode_13))) (.seq r_deci_Decode_14 (.cond (.t 42) (.seq r_deci_Decode_15 .ret) (.seq r_deci_Decode_16 .ret)))))))))
def i_deci_Decode : IFunc := ⟨2, [.t 4, .t 5], c_deci_Decode⟩
def a_deci_Decode : Advice := ⟨[34], [(15, [4, 5]), (14, [4, 5]), (13, [6, 42]), (12, [0, 6, 7, 17, 18]), (11, [0, 6, 7, 17, 18]), (10, [0, 6, 7, 9, 17, 18]), (9, [4, 5]), (8, [0, 6, 7, 8, 9, 10, 17, 18, 28]), (7, [0, 6, 7, 8, 9, 10, 17, 18]), (6, [0, 6, 7, 17, 18, 19]), (5, [0, 6, 7, 17, 18]), (4, [0, 1, 6, 7]), (3, [0, 1, 6]), (2, [4, 5]), (1, [0, 1, 16]), (0, [0, 1])], [], [], []⟩
/-! slices.Clone[[]byte,byte] -/
@[go_sem] def r_slices_Clone_Sbyte_byte_0_o : List IOper := [
  ⟨(some 2), none, .asg (.c .nilS)⟩]
def r_slices_Clone_Sbyte_byte_0 : ICode := .region r_slices_Clone_Sbyte_byte_0_o [] [0]
@[go_sem] theorem r_slices_Clone_Sbyte_byte_0_u : go X (.c r_slices_Clone_Sbyte_byte_0 :: K) s = goR X r_slices_Clone_Sbyte_byte_0_o [0] K s := go_region _ _
@[go_sem] def r_slices_Clone_Sbyte_byte_1_o : List IOper := [
  ⟨(some 3), none, .mv (.t 0)⟩,
  ⟨(some 4), none, .isNil false (.t 3)⟩]
def r_slices_Clone_Sbyte_byte_1 : ICode := .region r_slices_Clone_Sbyte_byte_1_o [] [0, 4]
@[go_sem] theorem r_slices_Clone_Sbyte_byte_1_u : go X (.c r_slices_Clone_Sbyte_byte_1 :: K) s = goR X r_slices_Clone_Sbyte_byte_1_o [0, 4] K s := go_region _ _
@[go_sem] def r_slices_Clone_Sbyte_byte_2_o : List IOper := [
  ⟨(some 2), none, .asg (.c .nilS)⟩]
def r_slices_Clone_Sbyte_byte_2 : ICode := .region r_slices_Clone_Sbyte_byte_2_o [] [2]
@[go_sem] theorem r_slices_Clone_Sbyte_byte_2_u : go X (.c r_slices_Clone_Sbyte_byte_2 :: K) s = goR X r_slices_Clone_Sbyte_byte_2_o [2] K s := go_region _ _
@[go_sem] def r_slices_Clone_Sbyte_byte_3_o : List IOper := [
  ⟨(some 5), none, .lit true 1 0 (.int .u8 0) []⟩,
  ⟨(some 6), none, .mv (.t 0)⟩,
  ⟨(some 7), none, .append 1 1 (.t 5) (.t 6)⟩,
  ⟨(some 2), none, .asg (.t 7)⟩]
def r_slices_Clone_Sbyte_byte_3 : ICode := .region r_slices_Clone_Sbyte_byte_3_o [] [2]
@[go_sem] theorem r_slices_Clone_Sbyte_byte_3_u : go X (.c r_slices_Clone_Sbyte_byte_3 :: K) s = goR X r_slices_Clone_Sbyte_byte_3_o [2] K s := go_region _ _
def c_slices_Clone_Sbyte_byte : ICode := (.seq r_slices_Clone_Sbyte_byte_0 (.seq r_slices_Clone_Sbyte_byte_1 (.cond (.t 4) (.seq r_slices_Clone_Sbyte_byte_2 .ret) (.seq r_slices_Clone_Sbyte_byte_3 .ret))))
def i_slices_Clone_Sbyte_byte : IFunc := ⟨1, [.t 2], c_slices_Clone_Sbyte_byte⟩
def a_slices_Clone_Sbyte_byte : Advice := ⟨[5], [(3, [2]), (2, [2]), (1, [0, 4]), (0, [0])], [], [], []⟩
/-! ingot/nums.PutVar -/
@[go_sem] def r_nums_PutVar_0_o : List IOper := [
  ⟨(some 4), none, .asg (.c .nilS)⟩]
def r_nums_PutVar_0 : ICode := .region r_nums_PutVar_0_o [] [0, 1]
@[go_sem] theorem r_nums_PutVar_0_u : go X (.c r_nums_PutVar_0 :: K) s = goR X r_nums_PutVar_0_o [0, 1] K s := go_region _ _
@[go_sem] def r_nums_PutVar_1_o : List IOper := [
  ⟨(some 6), none, .mv (.t 0)⟩,
  ⟨(some 7), none, .call true n_slices_Clone_Sbyte_byte [(.t 6)]⟩,
  ⟨(some 5), none, .asg (.t 7)⟩]
def r_nums_PutVar_1 : ICode := .region r_nums_PutVar_1_o [] [1, 5]
@[go_sem] theorem r_nums_PutVar_1_u : go X (.c r_nums_PutVar_1 :: K) s = goR X r_nums_PutVar_1_o [1, 5] K s := go_region _ _
@[go_sem] def r_nums_PutVar_2_o : List IOper := [
  ⟨(some 8), none, .mv (.t 1)⟩,
  ⟨(some 9), none, .bin .geq (.t 8) (.c (.int .u64 128))⟩]
def r_nums_PutVar_2 : ICode := .region r_nums_PutVar_2_o [] [1, 5, 9]
@[go_sem] theorem r_nums_PutVar_2_u : go X (.c r_nums_PutVar_2 :: K) s = goR X r_nums_PutVar_2_o [1, 5, 9] K s := go_region _ _
@[go_sem] def r_nums_PutVar_3_o : List IOper := [
  ⟨(some 10), none, .mv (.t 5)⟩,
  ⟨(some 11), none, .mv (.t 1)⟩,
  ⟨(some 12), none, .cvInt .u8 (.t 11)⟩,
  ⟨(some 13), none, .bin .or (.t 12) (.c (.int .u8 128))⟩,
  ⟨(some 14), none, .lit false 1 1 (.int .u8 0) [(0, (.t 13))]⟩,
  ⟨(some 15), none, .append 1 1 (.t 10) (.t 14)⟩,
  ⟨(some 5), none, .asg (.t 15)⟩]
def r_nums_PutVar_3 : ICode := .region r_nums_PutVar_3_o [] [1, 5]
@[go_sem] theorem r_nums_PutVar_3_u : go X (.c r_nums_PutVar_3 :: K) s = goR X r_nums_PutVar_3_o [1, 5] K s := go_region _ _
@[go_sem] def r_nums_PutVar_4_o : List IOper := [
  ⟨(some 16), none, .mv (.t 1)⟩,
  ⟨(some 17), none, .bin .shr (.t 16) (.c (.int .u64 7))⟩,
  ⟨(some 1), none, .asg (.t 17)⟩]
def r_nums_PutVar_4 : ICode := .region r_nums_PutVar_4_o [] [1, 5]
@[go_sem] theorem r_nums_PutVar_4_u : go X (.c r_nums_PutVar_4 :: K) s = goR X r_nums_PutVar_4_o [1, 5] K s := go_region _ _
def b_nums_PutVar_5 : ICode := (.seq (.seq r_nums_PutVar_2 (.cond (.t 9) .skip (.exit 0))) (.block 1 (.seq r_nums_PutVar_3 r_nums_PutVar_4)))
@[go_sem] theorem b_nums_PutVar_5_u : go X (.c b_nums_PutVar_5 :: K) s = go X (.c (.seq (.seq r_nums_PutVar_2 (.cond (.t 9) .skip (.exit 0))) (.block 1 (.seq r_nums_PutVar_3 r_nums_PutVar_4))) :: K) s := rfl
@[go_sem] def r_nums_PutVar_6_o : List IOper := [
  ⟨(some 18), none, .mv (.t 5)⟩,
  ⟨(some 19), none, .mv (.t 1)⟩,
  ⟨(some 20), none, .cvInt .u8 (.t 19)⟩,
  ⟨(some 21), none, .lit false 1 1 (.int .u8 0) [(0, (.t 20))]⟩,
  ⟨(some 22), none, .append 1 1 (.t 18) (.t 21)⟩,
  ⟨(some 23), none, .call false n_slices_Clip_Sbyte_byte [(.t 22)]⟩,
  ⟨(some 4), none, .asg (.t 23)⟩]
def r_nums_PutVar_6 : ICode := .region r_nums_PutVar_6_o [] [4]
@[go_sem] theorem r_nums_PutVar_6_u : go X (.c r_nums_PutVar_6 :: K) s = goR X r_nums_PutVar_6_o [4] K s := go_region _ _
def c_nums_PutVar : ICode := (.seq r_nums_PutVar_0 (.seq r_nums_PutVar_1 (.seq (.block 0 (.loop b_nums_PutVar_5)) (.seq r_nums_PutVar_6 .ret))))
def i_nums_PutVar : IFunc := ⟨2, [.t 4], c_nums_PutVar⟩
def a_nums_PutVar : Advice := ⟨[7, 15], [(5, [4]), (4, [1, 5]), (3, [1, 5]), (2, [1, 5, 9]), (1, [1, 5]), (0, [0, 1])], [], [], []⟩
/-! ingot/nums.Zig -/
@[go_sem] def r_nums_Zig_0_o : List IOper := [
  ⟨(some 2), none, .asg (.c (.int .u64 0))⟩]
def r_nums_Zig_0 : ICode := .region r_nums_Zig_0_o [] [0]
@[go_sem] theorem r_nums_Zig_0_u : go X (.c r_nums_Zig_0 :: K) s = goR X r_nums_Zig_0_o [0] K s := go_region _ _
@[go_sem] def r_nums_Zig_1_o : List IOper := [
  ⟨(some 3), none, .mv (.t 0)⟩,
  ⟨(some 4), none, .cvInt .u64 (.t 3)⟩,
  ⟨(some 5), none, .bin .shl (.t 4) (.c (.int .u64 1))⟩,
  ⟨(some 6), none, .mv (.t 0)⟩,
  ⟨(some 7), none, .bin .shr (.t 6) (.c (.int .u64 63))⟩,
  ⟨(some 8), none, .cvInt .u64 (.t 7)⟩,
  ⟨(some 9), none, .bin .xor (.t 5) (.t 8)⟩,
  ⟨(some 2), none, .asg (.t 9)⟩]
def r_nums_Zig_1 : ICode := .region r_nums_Zig_1_o [] [2]
@[go_sem] theorem r_nums_Zig_1_u : go X (.c r_nums_Zig_1 :: K) s = goR X r_nums_Zig_1_o [2] K s := go_region _ _
def c_nums_Zig : ICode := (.seq r_nums_Zig_0 (.seq r_nums_Zig_1 .ret))
def i_nums_Zig : IFunc := ⟨1, [.t 2], c_nums_Zig⟩
def a_nums_Zig : Advice := ⟨[], [(1, [2]), (0, [0])], [], [], []⟩
/-! ingot/deci.Encode -/
@[go_sem] def r_deci_Encode_0_o : List IOper := [
  ⟨(some 2), none, .asg (.c .nilS)⟩]
def r_deci_Encode_0 : ICode := .region r_deci_Encode_0_o [] [0]
@[go_sem] theorem r_deci_Encode_0_u : go X (.c r_deci_Encode_0 :: K) s = goR X r_deci_Encode_0_o [0] K s := go_region _ _
@[go_sem] def r_deci_Encode_1_o : List IOper := [
  ⟨(some 3), none, .asg (.c .nilS)⟩]
def r_deci_Encode_1 : ICode := .region r_deci_Encode_1_o [] [0, 3]
@[go_sem] theorem r_deci_Encode_1_u : go X (.c r_deci_Encode_1 :: K) s = goR X r_deci_Encode_1_o [0, 3] K s := go_region _ _
@[go_sem] def r_deci_Encode_2_o : List IOper := [
  ⟨(some 6), none, .mv (.t 0)⟩,
  ⟨(some 7), none, .len false (.t 6)⟩,
  ⟨(some 8), none, .mv (.c (.int .i64 0))⟩]
def r_deci_Encode_2 : ICode := .region r_deci_Encode_2_o [] [3, 6, 7, 8]
@[go_sem] theorem r_deci_Encode_2_u : go X (.c r_deci_Encode_2 :: K) s = goR X r_deci_Encode_2_o [3, 6, 7, 8] K s := go_region _ _
@[go_sem] def r_deci_Encode_3_o : List IOper := [
  ⟨(some 9), none, .bin .lss (.t 8) (.t 7)⟩]
def r_deci_Encode_3 : ICode := .region r_deci_Encode_3_o [] [3, 6, 7, 8, 9]
@[go_sem] theorem r_deci_Encode_3_u : go X (.c r_deci_Encode_3 :: K) s = goR X r_deci_Encode_3_o [3, 6, 7, 8, 9] K s := go_region _ _
@[go_sem] def r_deci_Encode_4_o : List IOper := [
  ⟨(some 10), none, .idxA 1 (.t 6) (.t 8)⟩,
  ⟨(some 11), none, .load none (.t 10)⟩,
  ⟨(some 5), none, .asg (.t 11)⟩]
def r_deci_Encode_4 : ICode := .region r_deci_Encode_4_o [] [3, 5, 6, 7, 8]
@[go_sem] theorem r_deci_Encode_4_u : go X (.c r_deci_Encode_4 :: K) s = goR X r_deci_Encode_4_o [3, 5, 6, 7, 8] K s := go_region _ _
@[go_sem] def r_deci_Encode_5_o : List IOper := [
  ⟨(some 12), none, .mv (.t 3)⟩,
  ⟨(some 13), none, .mv (.t 5)⟩,
  ⟨(some 14), none, .call false n_nums_Zig [(.t 13)]⟩,
  ⟨(some 15), none, .call false n_nums_PutVar [(.t 12), (.t 14)]⟩,
  ⟨(some 3), none, .asg (.t 15)⟩]
def r_deci_Encode_5 : ICode := .region r_deci_Encode_5_o [] [3, 6, 7, 8]
@[go_sem] theorem r_deci_Encode_5_u : go X (.c r_deci_Encode_5 :: K) s = goR X r_deci_Encode_5_o [3, 6, 7, 8] K s := go_region _ _
@[go_sem] def r_deci_Encode_6_o : List IOper := [
  ⟨(some 16), none, .bin .add (.t 8) (.c (.int .i64 1))⟩,
  ⟨(some 8), none, .mv (.t 16)⟩]
def r_deci_Encode_6 : ICode := .region r_deci_Encode_6_o [] [3, 6, 7, 8]
@[go_sem] theorem r_deci_Encode_6_u : go X (.c r_deci_Encode_6 :: K) s = goR X r_deci_Encode_6_o [3, 6, 7, 8] K s := go_region _ _
def b_deci_Encode_7 : ICode := (.seq r_deci_Encode_3 (.seq (.cond (.t 9) .skip (.exit 0)) (.seq (.block 1 (.seq r_deci_Encode_4 r_deci_Encode_5)) r_deci_Encode_6)))
@[go_sem] theorem b_deci_Encode_7_u : go X (.c b_deci_Encode_7 :: K) s = go X (.c (.seq r_deci_Encode_3 (.seq (.cond (.t 9) .skip (.exit 0)) (.seq (.block 1 (.seq r_deci_Encode_4 r_deci_Encode_5)) r_deci_Encode_6))) :: K) s := rfl
@[go_sem] def r_deci_Encode_8_o : List IOper := [
  ⟨(some 17), none, .mv (.t 3)⟩,
  ⟨(some 18), none, .call false n_slices_Clip_Sbyte_byte [(.t 17)]⟩,
  ⟨(some 2), none, .asg (.t 18)⟩]
def r_deci_Encode_8 : ICode := .region r_deci_Encode_8_o [] [2]
@[go_sem] theorem r_deci_Encode_8_u : go X (.c r_deci_Encode_8 :: K) s = goR X r_deci_Encode_8_o [2] K s := go_region _ _
def c_deci_Encode : ICode := (.seq r_deci_Encode_0 (.seq r_deci_Encode_1 (.seq (.seq r_deci_Encode_2 (.block 0 (.loop b_deci_Encode_7))) (.seq r_deci_Encode_8 .ret))))
def i_deci_Encode : IFunc := ⟨1, [.t 2], c_deci_Encode⟩
def a_deci_Encode : Advice := ⟨[], [(7, [2]), (6, [3, 6, 7, 8]), (5, [3, 6, 7, 8]), (4, [3, 5, 6, 7, 8]), (3, [3, 6, 7, 8, 9]), (2, [3, 6, 7, 8]), (1, [0, 3]), (0, [0])], [], [], []⟩
/-! ingot/nums.Add -/
@[go_sem] def r_nums_Add_0_o : List IOper := [
  ⟨(some 4), none, .asg (.c (.int .i64 0))⟩,
  ⟨(some 5), none, .asg (.c (.bool false))⟩]
def r_nums_Add_0 : ICode := .region r_nums_Add_0_o [] [0, 1]
@[go_sem] theorem r_nums_Add_0_u : go X (.c r_nums_Add_0 :: K) s = goR X r_nums_Add_0_o [0, 1] K s := go_region _ _
@[go_sem] def r_nums_Add_1_o : List IOper := [
  ⟨(some 7), none, .mv (.t 0)⟩,
  ⟨(some 8), none, .mv (.t 1)⟩,
  ⟨(some 9), none, .bin .add (.t 7) (.t 8)⟩,
  ⟨(some 6), none, .asg (.t 9)⟩]
def r_nums_Add_1 : ICode := .region r_nums_Add_1_o [] [0, 1, 6]
@[go_sem] theorem r_nums_Add_1_u : go X (.c r_nums_Add_1 :: K) s = goR X r_nums_Add_1_o [0, 1, 6] K s := go_region _ _
@[go_sem] def r_nums_Add_2_o : List IOper := [
  ⟨(some 10), none, .mv (.t 6)⟩,
  ⟨(some 11), none, .mv (.t 0)⟩,
  ⟨(some 12), none, .bin .gtr (.t 10) (.t 11)⟩,
  ⟨(some 13), none, .mv (.t 1)⟩,
  ⟨(some 14), none, .bin .gtr (.t 13) (.c (.int .i64 0))⟩,
  ⟨(some 15), none, .eqn true .bool (.t 12) (.t 14)⟩,
  ⟨(some 16), none, .mv (.t 15)⟩,
  ⟨(some 17), some (16, true), .mv (.t 1)⟩,
  ⟨(some 18), some (16, true), .bin .neq (.t 17) (.c (.int .i64 0))⟩,
  ⟨(some 19), none, .pick (.t 16) (.t 18) (.c (.bool false))⟩]
def r_nums_Add_2 : ICode := .region r_nums_Add_2_o [] [6, 19]
@[go_sem] theorem r_nums_Add_2_u : go X (.c r_nums_Add_2 :: K) s = goR X r_nums_Add_2_o [6, 19] K s := go_region _ _
@[go_sem] def r_nums_Add_3_o : List IOper := [
  ⟨(some 4), none, .asg (.c (.int .i64 0))⟩,
  ⟨(some 5), none, .asg (.c (.bool false))⟩]
def r_nums_Add_3 : ICode := .region r_nums_Add_3_o [] [4, 5]
@[go_sem] theorem r_nums_Add_3_u : go X (.c r_nums_Add_3 :: K) s = goR X r_nums_Add_3_o [4, 5] K s := go_region _ _
@[go_sem] def r_nums_Add_4_o : List IOper := [
  ⟨(some 20), none, .mv (.t 6)⟩,
  ⟨(some 4), none, .asg (.t 20)⟩,
  ⟨(some 5), none, .asg (.c (.bool true))⟩]
def r_nums_Add_4 : ICode := .region r_nums_Add_4_o [] [4, 5]
@[go_sem] theorem r_nums_Add_4_u : go X (.c r_nums_Add_4 :: K) s = goR X r_nums_Add_4_o [4, 5] K s := go_region _ _
def c_nums_Add : ICode := (.seq r_nums_Add_0 (.seq r_nums_Add_1 (.seq r_nums_Add_2 (.cond (.t 19) (.seq r_nums_Add_3 .ret) (.seq r_nums_Add_4 .ret)))))
def i_nums_Add : IFunc := ⟨2, [.t 4, .t 5], c_nums_Add⟩
def a_nums_Add : Advice := ⟨[], [(4, [4, 5]), (3, [4, 5]), (2, [6, 19]), (1, [0, 1, 6]), (0, [0, 1])], [], [], []⟩
/-! ingot/nums.size -/
@[go_sem] def r_nums_size_0_o : List IOper := [
  ⟨(some 2), none, .asg (.c (.int .u64 0))⟩]
def r_nums_size_0 : ICode := .region r_nums_size_0_o [] [0]
@[go_sem] theorem r_nums_size_0_u : go X (.c r_nums_size_0 :: K) s = goR X r_nums_size_0_o [0] K s := go_region _ _
@[go_sem] def r_nums_size_1_o : List IOper := [
  ⟨(some 3), none, .mv (.t 0)⟩,
  ⟨(some 4), none, .bin .lss (.t 3) (.c (.int .i64 0))⟩]
def r_nums_size_1 : ICode := .region r_nums_size_1_o [] [0, 4]
@[go_sem] theorem r_nums_size_1_u : go X (.c r_nums_size_1 :: K) s = goR X r_nums_size_1_o [0, 4] K s := go_region _ _
@[go_sem] def r_nums_size_2_o : List IOper := [
  ⟨(some 5), none, .mv (.t 0)⟩,
  ⟨(some 6), none, .cvInt .u64 (.t 5)⟩,
  ⟨(some 7), none, .un .neg (.t 6)⟩,
  ⟨(some 2), none, .asg (.t 7)⟩]
def r_nums_size_2 : ICode := .region r_nums_size_2_o [] [2]
@[go_sem] theorem r_nums_size_2_u : go X (.c r_nums_size_2 :: K) s = goR X r_nums_size_2_o [2] K s := go_region _ _
@[go_sem] def r_nums_size_3_o : List IOper := [
  ⟨(some 8), none, .mv (.t 0)⟩,
  ⟨(some 9), none, .cvInt .u64 (.t 8)⟩,
  ⟨(some 2), none, .asg (.t 9)⟩]
def r_nums_size_3 : ICode := .region r_nums_size_3_o [] [2]
@[go_sem] theorem r_nums_size_3_u : go X (.c r_nums_size_3 :: K) s = goR X r_nums_size_3_o [2] K s := go_region _ _
def c_nums_size : ICode := (.seq r_nums_size_0 (.seq r_nums_size_1 (.cond (.t 4) (.seq r_nums_size_2 .ret) (.seq r_nums_size_3 .ret))))
def i_nums_size : IFunc := ⟨1, [.t 2], c_nums_size⟩
def a_nums_size : Advice := ⟨[], [(3, [2]), (2, [2]), (1, [0, 4]), (0, [0])], [], [], []⟩
/-! ingot/nums.Mul -/
@[go_sem] def r_nums_Mul_0_o : List IOper := [
  ⟨(some 4), none, .asg (.c (.int .i64 0))⟩,
  ⟨(some 5), none, .asg (.c (.bool false))⟩]
def r_nums_Mul_0 : ICode := .region r_nums_Mul_0_o [] [0, 1]
@[go_sem] theorem r_nums_Mul_0_u : go X (.c r_nums_Mul_0 :: K) s = goR X r_nums_Mul_0_o [0, 1] K s := go_region _ _
@[go_sem] def r_nums_Mul_1_o : List IOper := [
  ⟨(some 9), none, .mv (.t 0)⟩,
  ⟨(some 10), none, .bin .eql (.t 9) (.c (.int .i64 0))⟩,
  ⟨(some 11), none, .mv (.t 10)⟩,
  ⟨(some 12), some (11, false), .mv (.t 1)⟩,
  ⟨(some 13), some (11, false), .bin .eql (.t 12) (.c (.int .i64 0))⟩,
  ⟨(some 14), none, .pick (.t 11) (.c (.bool true)) (.t 13)⟩]
def r_nums_Mul_1 : ICode := .region r_nums_Mul_1_o [] [0, 1, 14]
@[go_sem] theorem r_nums_Mul_1_u : go X (.c r_nums_Mul_1 :: K) s = goR X r_nums_Mul_1_o [0, 1, 14] K s := go_region _ _
@[go_sem] def r_nums_Mul_2_o : List IOper := [
  ⟨(some 4), none, .asg (.c (.int .i64 0))⟩,
  ⟨(some 5), none, .asg (.c (.bool true))⟩]
def r_nums_Mul_2 : ICode := .region r_nums_Mul_2_o [] [4, 5]
@[go_sem] theorem r_nums_Mul_2_u : go X (.c r_nums_Mul_2 :: K) s = goR X r_nums_Mul_2_o [4, 5] K s := go_region _ _
@[go_sem] def r_nums_Mul_3_o : List IOper := [
  ⟨(some 16), none, .mv (.t 0)⟩,
  ⟨(some 17), none, .call false n_nums_size [(.t 16)]⟩,
  ⟨(some 18), none, .mv (.t 1)⟩,
  ⟨(some 19), none, .call false n_nums_size [(.t 18)]⟩,
  ⟨(some 20), none, .call false n_bits_Mul64 [(.t 17), (.t 19)]⟩,
  ⟨(some 15), none, .mv (.t 20)⟩,
  ⟨(some 21), none, .ext (.t 15) 0⟩,
  ⟨(some 22), none, .ext (.t 15) 1⟩,
  ⟨(some 6), none, .asg (.t 21)⟩,
  ⟨(some 7), none, .asg (.t 22)⟩]
def r_nums_Mul_3 : ICode := .region r_nums_Mul_3_o [] [0, 1, 6, 7]
@[go_sem] theorem r_nums_Mul_3_u : go X (.c r_nums_Mul_3 :: K) s = goR X r_nums_Mul_3_o [0, 1, 6, 7] K s := go_region _ _
@[go_sem] def r_nums_Mul_4_o : List IOper := [
  ⟨(some 23), none, .mv (.t 0)⟩,
  ⟨(some 24), none, .bin .lss (.t 23) (.c (.int .i64 0))⟩,
  ⟨(some 25), none, .mv (.t 1)⟩,
  ⟨(some 26), none, .bin .lss (.t 25) (.c (.int .i64 0))⟩,
  ⟨(some 27), none, .eqn true .bool (.t 24) (.t 26)⟩,
  ⟨(some 8), none, .asg (.t 27)⟩]
def r_nums_Mul_4 : ICode := .region r_nums_Mul_4_o [] [6, 7, 8]
@[go_sem] theorem r_nums_Mul_4_u : go X (.c r_nums_Mul_4 :: K) s = goR X r_nums_Mul_4_o [6, 7, 8] K s := go_region _ _
@[go_sem] def r_nums_Mul_5_o : List IOper := [
  ⟨(some 29), none, .mv (.t 6)⟩,
  ⟨(some 30), none, .bin .neq (.t 29) (.c (.int .u64 0))⟩,
  ⟨(some 31), none, .mv (.t 30)⟩,
  ⟨(some 32), some (31, false), .mv (.t 7)⟩,
  ⟨(some 33), some (31, false), .bin .gtr (.t 32) (.c (.int .u64 9223372036854775808))⟩,
  ⟨(some 34), none, .pick (.t 31) (.c (.bool true)) (.t 33)⟩,
  ⟨(some 35), none, .mv (.t 34)⟩,
  ⟨(some 36), some (35, false), .mv (.t 7)⟩,
  ⟨(some 37), some (35, false), .bin .eql (.t 36) (.c (.int .u64 9223372036854775808))⟩,
  ⟨(some 38), some (35, false), .mv (.t 37)⟩,
  ⟨(some 39), some (38, true), .mv (.t 8)⟩,
  ⟨(some 40), some (38, true), .un .not (.t 39)⟩,
  ⟨(some 41), some (35, false), .pick (.t 38) (.t 40) (.c (.bool false))⟩,
  ⟨(some 42), none, .pick (.t 35) (.c (.bool true)) (.t 41)⟩,
  ⟨(some 28), none, .asg (.t 42)⟩]
def r_nums_Mul_5 : ICode := .region r_nums_Mul_5_o [] [7, 8, 28]
@[go_sem] theorem r_nums_Mul_5_u : go X (.c r_nums_Mul_5 :: K) s = goR X r_nums_Mul_5_o [7, 8, 28] K s := go_region _ _
@[go_sem] def r_nums_Mul_6_o : List IOper := [
  ⟨(some 4), none, .asg (.c (.int .i64 0))⟩,
  ⟨(some 5), none, .asg (.c (.bool false))⟩]
def r_nums_Mul_6 : ICode := .region r_nums_Mul_6_o [] [4, 5]
@[go_sem] theorem r_nums_Mul_6_u : go X (.c r_nums_Mul_6 :: K) s = goR X r_nums_Mul_6_o [4, 5] K s := go_region _ _
@[go_sem] def r_nums_Mul_7_o : List IOper := [
  ⟨(some 44), none, .mv (.t 8)⟩,
  ⟨(some 43), none, .asg (.t 44)⟩]
def r_nums_Mul_7 : ICode := .region r_nums_Mul_7_o [] [7, 43]
@[go_sem] theorem r_nums_Mul_7_u : go X (.c r_nums_Mul_7 :: K) s = goR X r_nums_Mul_7_o [7, 43] K s := go_region _ _
@[go_sem] def r_nums_Mul_8_o : List IOper := [
  ⟨(some 45), none, .mv (.t 7)⟩,
  ⟨(some 46), none, .cvInt .i64 (.t 45)⟩,
  ⟨(some 47), none, .un .neg (.t 46)⟩,
  ⟨(some 4), none, .asg (.t 47)⟩,
  ⟨(some 5), none, .asg (.c (.bool true))⟩]
def r_nums_Mul_8 : ICode := .region r_nums_Mul_8_o [] [4, 5]
@[go_sem] theorem r_nums_Mul_8_u : go X (.c r_nums_Mul_8 :: K) s = goR X r_nums_Mul_8_o [4, 5] K s := go_region _ _
@[go_sem] def r_nums_Mul_9_o : List IOper := [
  ⟨(some 48), none, .mv (.t 7)⟩,
  ⟨(some 49), none, .cvInt .i64 (.t 48)⟩,
  ⟨(some 4), none, .asg (.t 49)⟩,
  ⟨(some 5), none, .asg (.c (.bool true))⟩]
def r_nums_Mul_9 : ICode := .region r_nums_Mul_9_o [] [4, 5]
@[go_sem] theorem r_nums_Mul_9_u : go X (.c r_nums_Mul_9 :: K) s = goR X r_nums_Mul_9_o [4, 5] K s := go_region _ _
def c_nums_Mul : ICode := (.seq r_nums_Mul_0 (.seq r_nums_Mul_1 (.cond (.t 14) (.seq r_nums_Mul_2 .ret) (.seq r_nums_Mul_3 (.seq r_nums_Mul_4 (.seq (.block 0 (.seq r_nums_Mul_5 (.cond (.t 28) (.seq r_nums_Mul_6 .ret) (.seq r_nums_Mul_7 (.cond (.t 43) (.seq r_nums_Mul_8 .ret) .skip))))) (.seq r_nums_Mul_9 .ret)))))))
def i_nums_Mul : IFunc := ⟨2, [.t 4, .t 5], c_nums_Mul⟩
def a_nums_Mul : Advice := ⟨[], [(9, [4, 5]), (6, [4, 5]), (8, [4, 5]), (7, [7, 43]), (5, [7, 8, 28]), (4, [6, 7, 8]), (3, [0, 1, 6, 7]), (2, [4, 5]), (1, [0, 1, 14]), (0, [0, 1])], [], [], []⟩
/-! ingot/deci.plain -/
@[go_sem] def r_deci_plain_0_o : List IOper := [
  ⟨(some 2), none, .asg (.c (.bool false))⟩]
def r_deci_plain_0 : ICode := .region r_deci_plain_0_o [] [0]
@[go_sem] theorem r_deci_plain_0_u : go X (.c r_deci_plain_0 :: K) s = goR X r_deci_plain_0_o [0] K s := go_region _ _
@[go_sem] def r_deci_plain_1_o : List IOper := [
  ⟨(some 3), none, .mv (.t 0)⟩,
  ⟨(some 4), none, .bin .neq (.t 3) (.c (.str []))⟩,
  ⟨(some 5), none, .mv (.t 4)⟩,
  ⟨(some 6), some (5, true), .mv (.t 0)⟩,
  ⟨(some 7), some (5, true), .call false n_strings_Trim [(.t 6), (.c (.str [48, 49, 50, 51, 52, 53, 54, 55, 56, 57]))]⟩,
  ⟨(some 8), some (5, true), .bin .eql (.t 7) (.c (.str []))⟩,
  ⟨(some 9), none, .pick (.t 5) (.t 8) (.c (.bool false))⟩,
  ⟨(some 2), none, .asg (.t 9)⟩]
def r_deci_plain_1 : ICode := .region r_deci_plain_1_o [] [2]
@[go_sem] theorem r_deci_plain_1_u : go X (.c r_deci_plain_1 :: K) s = goR X r_deci_plain_1_o [2] K s := go_region _ _
def c_deci_plain : ICode := (.seq r_deci_plain_0 (.seq r_deci_plain_1 .ret))
def i_deci_plain : IFunc := ⟨1, [.t 2], c_deci_plain⟩
def a_deci_plain : Advice := ⟨[], [(1, [2]), (0, [0])], [], [], []⟩
/-! internal/stringslite.Cut -/
@[go_sem] def r_stringslite_Cut_0_o : List IOper := [
  ⟨(some 4), none, .asg (.c (.str []))⟩,
  ⟨(some 5), none, .asg (.c (.str []))⟩,
  ⟨(some 6), none, .asg (.c (.bool false))⟩]
def r_stringslite_Cut_0 : ICode := .region r_stringslite_Cut_0_o [] [0, 1]
@[go_sem] theorem r_stringslite_Cut_0_u : go X (.c r_stringslite_Cut_0 :: K) s = goR X r_stringslite_Cut_0_o [0, 1] K s := go_region _ _
@[go_sem] def r_stringslite_Cut_1_o : List IOper := [
  ⟨(some 8), none, .mv (.t 0)⟩,
  ⟨(some 9), none, .mv (.t 1)⟩,
  ⟨(some 10), none, .call false n_stringslite_Index [(.t 8), (.t 9)]⟩,
  ⟨(some 7), none, .asg (.t 10)⟩]
def r_stringslite_Cut_1 : ICode := .region r_stringslite_Cut_1_o [] [0, 1, 7]
@[go_sem] theorem r_stringslite_Cut_1_u : go X (.c r_stringslite_Cut_1 :: K) s = goR X r_stringslite_Cut_1_o [0, 1, 7] K s := go_region _ _
@[go_sem] def r_stringslite_Cut_2_o : List IOper := [
  ⟨(some 11), none, .mv (.t 7)⟩,
  ⟨(some 12), none, .bin .geq (.t 11) (.c (.int .i64 0))⟩]
def r_stringslite_Cut_2 : ICode := .region r_stringslite_Cut_2_o [] [0, 1, 7, 12]
@[go_sem] theorem r_stringslite_Cut_2_u : go X (.c r_stringslite_Cut_2 :: K) s = goR X r_stringslite_Cut_2_o [0, 1, 7, 12] K s := go_region _ _
@[go_sem] def r_stringslite_Cut_3_o : List IOper := [
  ⟨(some 13), none, .mv (.t 0)⟩,
  ⟨(some 14), none, .mv (.t 7)⟩,
  ⟨(some 15), none, .sliceS (.t 13) none (some (.t 14))⟩,
  ⟨(some 16), none, .mv (.t 0)⟩,
  ⟨(some 17), none, .mv (.t 7)⟩,
  ⟨(some 18), none, .mv (.t 1)⟩,
  ⟨(some 19), none, .len true (.t 18)⟩,
  ⟨(some 20), none, .bin .add (.t 17) (.t 19)⟩,
  ⟨(some 21), none, .sliceS (.t 16) (some (.t 20)) none⟩,
  ⟨(some 4), none, .asg (.t 15)⟩,
  ⟨(some 5), none, .asg (.t 21)⟩,
  ⟨(some 6), none, .asg (.c (.bool true))⟩]
def r_stringslite_Cut_3_n : List (Nat × Nat) := [(0, 1), (0, 3), (1, 3), (2, 3), (0, 4), (1, 4), (2, 4), (3, 4), (0, 5), (1, 5), (2, 5), (3, 5), (4, 5), (0, 6), (1, 6), (2, 6), (3, 6), (4, 6), (0, 7), (1, 7), (2, 7), (3, 7), (0, 8), (1, 8), (2, 8), (3, 9), (4, 9), (5, 9), (6, 9), (7, 9), (8, 9)]
def r_stringslite_Cut_3 : ICode := .region r_stringslite_Cut_3_o r_stringslite_Cut_3_n [4, 5, 6]
@[go_sem] theorem r_stringslite_Cut_3_u : go X (.c r_stringslite_Cut_3 :: K) s = goRU X [] r_stringslite_Cut_3_n r_stringslite_Cut_3_o [4, 5, 6] K s := go_regionU' _ _ _ _
@[go_sem] def r_stringslite_Cut_4_o : List IOper := [
  ⟨(some 22), none, .mv (.t 0)⟩,
  ⟨(some 4), none, .asg (.t 22)⟩,
  ⟨(some 5), none, .asg (.c (.str []))⟩,
  ⟨(some 6), none, .asg (.c (.bool false))⟩]
def r_stringslite_Cut_4 : ICode := .region r_stringslite_Cut_4_o [] [4, 5, 6]
@[go_sem] theorem r_stringslite_Cut_4_u : go X (.c r_stringslite_Cut_4 :: K) s = goR X r_stringslite_Cut_4_o [4, 5, 6] K s := go_region _ _
def c_stringslite_Cut : ICode := (.seq r_stringslite_Cut_0 (.seq (.seq r_stringslite_Cut_1 (.seq r_stringslite_Cut_2 (.cond (.t 12) (.seq r_stringslite_Cut_3 .ret) .skip))) (.seq r_stringslite_Cut_4 .ret)))
def i_stringslite_Cut : IFunc := ⟨2, [.t 4, .t 5, .t 6], c_stringslite_Cut⟩
def a_stringslite_Cut : Advice := ⟨[], [(4, [4, 5, 6]), (3, [4, 5, 6]), (2, [0, 1, 7, 12]), (1, [0, 1, 7]), (0, [0, 1])], [], [], []⟩
/-! strings.Cut -/
@[go_sem] def r_strings_Cut_0_o : List IOper := [
  ⟨(some 4), none, .asg (.c (.str []))⟩,
  ⟨(some 5), none, .asg (.c (.str []))⟩,
  ⟨(some 6), none, .asg (.c (.bool false))⟩]
def r_strings_Cut_0 : ICode := .region r_strings_Cut_0_o [] [0, 1]
@[go_sem] theorem r_strings_Cut_0_u : go X (.c r_strings_Cut_0 :: K) s = goR X r_strings_Cut_0_o [0, 1] K s := go_region _ _
@[go_sem] def r_strings_Cut_1_o : List IOper := [
  ⟨(some 7), none, .mv (.t 0)⟩,
  ⟨(some 8), none, .mv (.t 1)⟩,
  ⟨(some 9), none, .call false n_stringslite_Cut [(.t 7), (.t 8)]⟩,
  ⟨(some 10), none, .ext (.t 9) 0⟩,
  ⟨(some 11), none, .ext (.t 9) 1⟩,
  ⟨(some 12), none, .ext (.t 9) 2⟩,
  ⟨(some 4), none, .asg (.t 10)⟩,
  ⟨(some 5), none, .asg (.t 11)⟩,
  ⟨(some 6), none, .asg (.t 12)⟩]
def r_strings_Cut_1 : ICode := .region r_strings_Cut_1_o [] [4, 5, 6]
@[go_sem] theorem r_strings_Cut_1_u : go X (.c r_strings_Cut_1 :: K) s = goR X r_strings_Cut_1_o [4, 5, 6] K s := go_region _ _
def c_strings_Cut : ICode := (.seq r_strings_Cut_0 (.seq r_strings_Cut_1 .ret))
def i_strings_Cut : IFunc := ⟨2, [.t 4, .t 5, .t 6], c_strings_Cut⟩
def a_strings_Cut : Advice := ⟨[], [(1, [4, 5, 6]), (0, [0, 1])], [], [], []⟩
/-! internal/stringslite.HasPrefix -/
@[go_sem] def r_stringslite_HasPrefix_0_o : List IOper := [
  ⟨(some 4), none, .asg (.c (.bool false))⟩]
def r_stringslite_HasPrefix_0 : ICode := .region r_stringslite_HasPrefix_0_o [] [0, 1]
@[go_sem] theorem r_stringslite_HasPrefix_0_u : go X (.c r_stringslite_HasPrefix_0 :: K) s = goR X r_stringslite_HasPrefix_0_o [0, 1] K s := go_region _ _
@[go_sem] def r_stringslite_HasPrefix_1_o : List IOper := [
  ⟨(some 5), none, .mv (.t 0)⟩,
  ⟨(some 6), none, .len true (.t 5)⟩,
  ⟨(some 7), none, .mv (.t 1)⟩,
  ⟨(some 8), none, .len true (.t 7)⟩,
  ⟨(some 9), none, .bin .geq (.t 6) (.t 8)⟩,
  ⟨(some 10), none, .mv (.t 9)⟩,
  ⟨(some 11), some (10, true), .mv (.t 0)⟩,
  ⟨(some 12), some (10, true), .mv (.t 1)⟩,
  ⟨(some 13), some (10, true), .len true (.t 12)⟩,
  ⟨(some 14), some (10, true), .sliceS (.t 11) none (some (.t 13))⟩,
  ⟨(some 15), some (10, true), .mv (.t 1)⟩,
  ⟨(some 16), some (10, true), .bin .eql (.t 14) (.t 15)⟩,
  ⟨(some 17), none, .pick (.t 10) (.t 16) (.c (.bool false))⟩,
  ⟨(some 4), none, .asg (.t 17)⟩]
def r_stringslite_HasPrefix_1 : ICode := .region r_stringslite_HasPrefix_1_o [] [4]
@[go_sem] theorem r_stringslite_HasPrefix_1_u : go X (.c r_stringslite_HasPrefix_1 :: K) s = goR X r_stringslite_HasPrefix_1_o [4] K s := go_region _ _
def c_stringslite_HasPrefix : ICode := (.seq r_stringslite_HasPrefix_0 (.seq r_stringslite_HasPrefix_1 .ret))
def i_stringslite_HasPrefix : IFunc := ⟨2, [.t 4], c_stringslite_HasPrefix⟩
def a_stringslite_HasPrefix : Advice := ⟨[], [(1, [4]), (0, [0, 1])], [], [], []⟩
/-! internal/stringslite.CutPrefix -/
@[go_sem] def r_stringslite_CutPrefix_0_o : List IOper := [
  ⟨(some 4), none, .asg (.c (.str []))⟩,
  ⟨(some 5), none, .asg (.c (.bool false))⟩]
def r_stringslite_CutPrefix_0 : ICode := .region r_stringslite_CutPrefix_0_o [] [0, 1]
@[go_sem] theorem r_stringslite_CutPrefix_0_u : go X (.c r_stringslite_CutPrefix_0 :: K) s = goR X r_stringslite_CutPrefix_0_o [0, 1] K s := go_region _ _
@[go_sem] def r_stringslite_CutPrefix_1_o : List IOper := [
  ⟨(some 6), none, .mv (.t 0)⟩,
  ⟨(some 7), none, .mv (.t 1)⟩,
  ⟨(some 8), none, .call false n_stringslite_HasPrefix [(.t 6), (.t 7)]⟩,
  ⟨(some 9), none, .un .not (.t 8)⟩]
def r_stringslite_CutPrefix_1 : ICode := .region r_stringslite_CutPrefix_1_o [] [0, 1, 9]
@[go_sem] theorem r_stringslite_CutPrefix_1_u : go X (.c r_stringslite_CutPrefix_1 :: K) s = goR X r_stringslite_CutPrefix_1_o [0, 1, 9] K s := go_region _ _
@[go_sem] def r_stringslite_CutPrefix_2_o : List IOper := [
  ⟨(some 10), none, .mv (.t 0)⟩,
  ⟨(some 4), none, .asg (.t 10)⟩,
  ⟨(some 5), none, .asg (.c (.bool false))⟩]
def r_stringslite_CutPrefix_2 : ICode := .region r_stringslite_CutPrefix_2_o [] [4, 5]
@[go_sem] theorem r_stringslite_CutPrefix_2_u : go X (.c r_stringslite_CutPrefix_2 :: K) s = goR X r_stringslite_CutPrefix_2_o [4, 5] K s := go_region _ _
@[go_sem] def r_stringslite_CutPrefix_3_o : List IOper := [
  ⟨(some 11), none, .mv (.t 0)⟩,
  ⟨(some 12), none, .mv (.t 1)⟩,
  ⟨(some 13), none, .len true (.t 12)⟩,
  ⟨(some 14), none, .sliceS (.t 11) (some (.t 13)) none⟩,
  ⟨(some 4), none, .asg (.t 14)⟩,
  ⟨(some 5), none, .asg (.c (.bool true))⟩]
def r_stringslite_CutPrefix_3 : ICode := .region r_stringslite_CutPrefix_3_o [] [4, 5]
@[go_sem] theorem r_stringslite_CutPrefix_3_u : go X (.c r_stringslite_CutPrefix_3 :: K) s = goR X r_stringslite_CutPrefix_3_o [4, 5] K s := go_region _ _
def c_stringslite_CutPrefix : ICode := (.seq r_stringslite_CutPrefix_0 (.seq r_stringslite_CutPrefix_1 (.cond (.t 9) (.seq r_stringslite_CutPrefix_2 .ret) (.seq r_stringslite_CutPrefix_3 .ret))))
def i_stringslite_CutPrefix : IFunc := ⟨2, [.t 4, .t 5], c_stringslite_CutPrefix⟩
def a_stringslite_CutPrefix : Advice := ⟨[], [(3, [4, 5]), (2, [4, 5]), (1, [0, 1, 9]), (0, [0, 1])], [], [], []⟩
/-! strings.CutPrefix -/
@[go_sem] def r_strings_CutPrefix_0_o : List IOper := [
  ⟨(some 4), none, .asg (.c (.str []))⟩,
  ⟨(some 5), none, .asg (.c (.bool false))⟩]
def r_strings_CutPrefix_0 : ICode := .region r_strings_CutPrefix_0_o [] [0, 1]
@[go_sem] theorem r_strings_CutPrefix_0_u : go X (.c r_strings_CutPrefix_0 :: K) s = goR X r_strings_CutPrefix_0_o [0, 1] K s := go_region _ _
@[go_sem] def r_strings_CutPrefix_1_o : List IOper := [
  ⟨(some 6), none, .mv (.t 0)⟩,
  ⟨(some 7), none, .mv (.t 1)⟩,
  ⟨(some 8), none, .call false n_stringslite_CutPrefix [(.t 6), (.t 7)]⟩,
  ⟨(some 9), none, .ext (.t 8) 0⟩,
  ⟨(some 10), none, .ext (.t 8) 1⟩,
  ⟨(some 4), none, .asg (.t 9)⟩,
  ⟨(some 5), none, .asg (.t 10)⟩]
def r_strings_CutPrefix_1 : ICode := .region r_strings_CutPrefix_1_o [] [4, 5]
@[go_sem] theorem r_strings_CutPrefix_1_u : go X (.c r_strings_CutPrefix_1 :: K) s = goR X r_strings_CutPrefix_1_o [4, 5] K s := go_region _ _
def c_strings_CutPrefix : ICode := (.seq r_strings_CutPrefix_0 (.seq r_strings_CutPrefix_1 .ret))
def i_strings_CutPrefix : IFunc := ⟨2, [.t 4, .t 5], c_strings_CutPrefix⟩
def a_strings_CutPrefix : Advice := ⟨[], [(1, [4, 5]), (0, [0, 1])], [], [], []⟩
/-! ingot/deci.Parse -/
@[go_sem] def r_deci_Parse_0_o : List IOper := [
  ⟨(some 4), none, .asg (.c (.int .i64 0))⟩,
  ⟨(some 5), none, .asg (.c (.int .i64 0))⟩]
def r_deci_Parse_0 : ICode := .region r_deci_Parse_0_o [] [0, 1]
@[go_sem] theorem r_deci_Parse_0_u : go X (.c r_deci_Parse_0 :: K) s = goR X r_deci_Parse_0_o [0, 1] K s := go_region _ _
@[go_sem] def r_deci_Parse_1_o : List IOper := [
  ⟨(some 19), none, .mv (.t 1)⟩,
  ⟨(some 20), none, .minmax true [(.t 19), (.c (.int .i64 0))]⟩,
  ⟨(some 21), none, .minmax false [(.t 20), (.c (.int .i64 18))]⟩,
  ⟨(some 1), none, .asg (.t 21)⟩]
def r_deci_Parse_1 : ICode := .region r_deci_Parse_1_o [] [0, 1]
@[go_sem] theorem r_deci_Parse_1_u : go X (.c r_deci_Parse_1 :: K) s = goR X r_deci_Parse_1_o [0, 1] K s := go_region _ _
@[go_sem] def r_deci_Parse_2_o : List IOper := [
  ⟨(some 23), none, .mv (.t 0)⟩,
  ⟨(some 24), none, .call false n_strings_CutPrefix [(.t 23), (.c (.str [45]))]⟩,
  ⟨(some 22), none, .mv (.t 24)⟩,
  ⟨(some 25), none, .ext (.t 22) 0⟩,
  ⟨(some 26), none, .ext (.t 22) 1⟩,
  ⟨(some 6), none, .asg (.t 25)⟩,
  ⟨(some 7), none, .asg (.t 26)⟩]
def r_deci_Parse_2 : ICode := .region r_deci_Parse_2_o [] [1, 6, 7]
@[go_sem] theorem r_deci_Parse_2_u : go X (.c r_deci_Parse_2 :: K) s = goR X r_deci_Parse_2_o [1, 6, 7] K s := go_region _ _
@[go_sem] def r_deci_Parse_3_o : List IOper := [
  ⟨(some 28), none, .mv (.t 6)⟩,
  ⟨(some 29), none, .call false n_strings_Cut [(.t 28), (.c (.str [46]))]⟩,
  ⟨(some 27), none, .mv (.t 29)⟩,
  ⟨(some 30), none, .ext (.t 27) 0⟩,
  ⟨(some 31), none, .ext (.t 27) 1⟩,
  ⟨(some 32), none, .ext (.t 27) 2⟩,
  ⟨(some 8), none, .asg (.t 30)⟩,
  ⟨(some 9), none, .asg (.t 31)⟩,
  ⟨(some 10), none, .asg (.t 32)⟩]
def r_deci_Parse_3 : ICode := .region r_deci_Parse_3_o [] [1, 7, 8, 9, 10]
@[go_sem] theorem r_deci_Parse_3_u : go X (.c r_deci_Parse_3 :: K) s = goR X r_deci_Parse_3_o [1, 7, 8, 9, 10] K s := go_region _ _
@[go_sem] def r_deci_Parse_4_o : List IOper := [
  ⟨(some 34), none, .mv (.t 8)⟩,
  ⟨(some 35), none, .call false n_deci_plain [(.t 34)]⟩,
  ⟨(some 36), none, .un .not (.t 35)⟩,
  ⟨(some 37), none, .mv (.t 36)⟩,
  ⟨(some 38), some (37, false), .mv (.t 10)⟩,
  ⟨(some 39), some (37, false), .mv (.t 38)⟩,
  ⟨(some 40), some (39, true), .mv (.t 9)⟩,
  ⟨(some 41), some (39, true), .call false n_deci_plain [(.t 40)]⟩,
  ⟨(some 42), some (39, true), .un .not (.t 41)⟩,
  ⟨(some 43), some (37, false), .pick (.t 39) (.t 42) (.c (.bool false))⟩,
  ⟨(some 44), none, .pick (.t 37) (.c (.bool true)) (.t 43)⟩,
  ⟨(some 33), none, .asg (.t 44)⟩]
def r_deci_Parse_4 : ICode := .region r_deci_Parse_4_o [] [1, 7, 8, 9, 33]
@[go_sem] theorem r_deci_Parse_4_u : go X (.c r_deci_Parse_4 :: K) s = goR X r_deci_Parse_4_o [1, 7, 8, 9, 33] K s := go_region _ _
@[go_sem] def r_deci_Parse_5_o : List IOper := [
  ⟨(some 4), none, .asg (.c (.int .i64 0))⟩,
  ⟨(some 5), none, .asg (.c (.int .i64 2))⟩]
def r_deci_Parse_5 : ICode := .region r_deci_Parse_5_o [] [4, 5]
@[go_sem] theorem r_deci_Parse_5_u : go X (.c r_deci_Parse_5 :: K) s = goR X r_deci_Parse_5_o [4, 5] K s := go_region _ _
@[go_sem] def r_deci_Parse_6_o : List IOper := [
  ⟨(some 46), none, .mv (.t 9)⟩,
  ⟨(some 47), none, .len true (.t 46)⟩,
  ⟨(some 48), none, .mv (.t 1)⟩,
  ⟨(some 49), none, .bin .gtr (.t 47) (.t 48)⟩,
  ⟨(some 45), none, .asg (.t 49)⟩]
def r_deci_Parse_6 : ICode := .region r_deci_Parse_6_o [] [1, 7, 8, 9, 45]
@[go_sem] theorem r_deci_Parse_6_u : go X (.c r_deci_Parse_6 :: K) s = goR X r_deci_Parse_6_o [1, 7, 8, 9, 45] K s := go_region _ _
@[go_sem] def r_deci_Parse_7_o : List IOper := [
  ⟨(some 4), none, .asg (.c (.int .i64 0))⟩,
  ⟨(some 5), none, .asg (.c (.int .i64 4))⟩]
def r_deci_Parse_7 : ICode := .region r_deci_Parse_7_o [] [4, 5]
@[go_sem] theorem r_deci_Parse_7_u : go X (.c r_deci_Parse_7 :: K) s = goR X r_deci_Parse_7_o [4, 5] K s := go_region _ _
@[go_sem] def r_deci_Parse_8_o : List IOper := [
  ⟨(some 11), none, .asg (.c (.int .i64 0))⟩]
def r_deci_Parse_8 : ICode := .region r_deci_Parse_8_o [] [1, 7, 8, 9, 11]
@[go_sem] theorem r_deci_Parse_8_u : go X (.c r_deci_Parse_8 :: K) s = goR X r_deci_Parse_8_o [1, 7, 8, 9, 11] K s := go_region _ _
@[go_sem] def r_deci_Parse_9_o : List IOper := [
  ⟨(some 50), none, .mv (.t 8)⟩,
  ⟨(some 51), none, .mv (.t 9)⟩,
  ⟨(some 52), none, .bin .add (.t 50) (.t 51)⟩,
  ⟨(some 53), none, .mv (.t 1)⟩,
  ⟨(some 54), none, .mv (.t 9)⟩,
  ⟨(some 55), none, .len true (.t 54)⟩,
  ⟨(some 56), none, .bin .sub (.t 53) (.t 55)⟩,
  ⟨(some 57), none, .call false n_strings_Repeat [(.c (.str [48])), (.t 56)]⟩,
  ⟨(some 58), none, .bin .add (.t 52) (.t 57)⟩,
  ⟨(some 59), none, .s2b false (.t 58)⟩,
  ⟨(some 60), none, .len false (.t 59)⟩,
  ⟨(some 61), none, .mv (.c (.int .i64 0))⟩]
def r_deci_Parse_9 : ICode := .region r_deci_Parse_9_o [] [7, 11, 59, 60, 61]
@[go_sem] theorem r_deci_Parse_9_u : go X (.c r_deci_Parse_9 :: K) s = goR X r_deci_Parse_9_o [7, 11, 59, 60, 61] K s := go_region _ _
@[go_sem] def r_deci_Parse_10_o : List IOper := [
  ⟨(some 62), none, .bin .lss (.t 61) (.t 60)⟩]
def r_deci_Parse_10 : ICode := .region r_deci_Parse_10_o [] [7, 11, 59, 60, 61, 62]
@[go_sem] theorem r_deci_Parse_10_u : go X (.c r_deci_Parse_10 :: K) s = goR X r_deci_Parse_10_o [7, 11, 59, 60, 61, 62] K s := go_region _ _
@[go_sem] def r_deci_Parse_11_o : List IOper := [
  ⟨(some 63), none, .idxA 1 (.t 59) (.t 61)⟩,
  ⟨(some 64), none, .load none (.t 63)⟩,
  ⟨(some 13), none, .asg (.t 64)⟩]
def r_deci_Parse_11 : ICode := .region r_deci_Parse_11_o [] [7, 11, 13, 59, 60, 61]
@[go_sem] theorem r_deci_Parse_11_u : go X (.c r_deci_Parse_11 :: K) s = goR X r_deci_Parse_11_o [7, 11, 13, 59, 60, 61] K s := go_region _ _
@[go_sem] def r_deci_Parse_12_o : List IOper := [
  ⟨(some 65), none, .mv (.t 13)⟩,
  ⟨(some 66), none, .bin .sub (.t 65) (.c (.int .u8 48))⟩,
  ⟨(some 67), none, .cvInt .i64 (.t 66)⟩,
  ⟨(some 14), none, .asg (.t 67)⟩]
def r_deci_Parse_12 : ICode := .region r_deci_Parse_12_o [] [7, 11, 14, 59, 60, 61]
@[go_sem] theorem r_deci_Parse_12_u : go X (.c r_deci_Parse_12 :: K) s = goR X r_deci_Parse_12_o [7, 11, 14, 59, 60, 61] K s := go_region _ _
@[go_sem] def r_deci_Parse_13_o : List IOper := [
  ⟨(some 68), none, .mv (.t 7)⟩]
def r_deci_Parse_13 : ICode := .region r_deci_Parse_13_o [] [7, 11, 14, 59, 60, 61, 68]
@[go_sem] theorem r_deci_Parse_13_u : go X (.c r_deci_Parse_13 :: K) s = goR X r_deci_Parse_13_o [7, 11, 14, 59, 60, 61, 68] K s := go_region _ _
@[go_sem] def r_deci_Parse_14_o : List IOper := [
  ⟨(some 69), none, .mv (.t 14)⟩,
  ⟨(some 70), none, .un .neg (.t 69)⟩,
  ⟨(some 14), none, .asg (.t 70)⟩]
def r_deci_Parse_14 : ICode := .region r_deci_Parse_14_o [] [7, 11, 14, 59, 60, 61]
@[go_sem] theorem r_deci_Parse_14_u : go X (.c r_deci_Parse_14 :: K) s = goR X r_deci_Parse_14_o [7, 11, 14, 59, 60, 61] K s := go_region _ _
@[go_sem] def r_deci_Parse_15_o : List IOper := [
  ⟨(some 72), none, .mv (.t 11)⟩,
  ⟨(some 73), none, .call false n_nums_Mul [(.t 72), (.c (.int .i64 10))]⟩,
  ⟨(some 71), none, .mv (.t 73)⟩,
  ⟨(some 74), none, .ext (.t 71) 0⟩,
  ⟨(some 75), none, .ext (.t 71) 1⟩,
  ⟨(some 15), none, .asg (.t 74)⟩,
  ⟨(some 16), none, .asg (.t 75)⟩]
def r_deci_Parse_15 : ICode := .region r_deci_Parse_15_o [] [7, 14, 15, 16, 59, 60, 61]
@[go_sem] theorem r_deci_Parse_15_u : go X (.c r_deci_Parse_15 :: K) s = goR X r_deci_Parse_15_o [7, 14, 15, 16, 59, 60, 61] K s := go_region _ _
@[go_sem] def r_deci_Parse_16_o : List IOper := [
  ⟨(some 77), none, .mv (.t 15)⟩,
  ⟨(some 78), none, .mv (.t 14)⟩,
  ⟨(some 79), none, .call false n_nums_Add [(.t 77), (.t 78)]⟩,
  ⟨(some 76), none, .mv (.t 79)⟩,
  ⟨(some 80), none, .ext (.t 76) 0⟩,
  ⟨(some 81), none, .ext (.t 76) 1⟩,
  ⟨(some 17), none, .asg (.t 80)⟩,
  ⟨(some 18), none, .asg (.t 81)⟩]
def r_deci_Parse_16 : ICode := .region r_deci_Parse_16_o [] [7, 16, 17, 18, 59, 60, 61]
@[go_sem] theorem r_deci_Parse_16_u : go X (.c r_deci_Parse_16 :: K) s = goR X r_deci_Parse_16_o [7, 16, 17, 18, 59, 60, 61] K s := go_region _ _
@[go_sem] def r_deci_Parse_17_o : List IOper := [
  ⟨(some 82), none, .mv (.t 16)⟩,
  ⟨(some 83), none, .un .not (.t 82)⟩,
  ⟨(some 84), none, .mv (.t 83)⟩,
  ⟨(some 85), some (84, false), .mv (.t 18)⟩,
  ⟨(some 86), some (84, false), .un .not (.t 85)⟩,
  ⟨(some 87), none, .pick (.t 84) (.c (.bool true)) (.t 86)⟩]
def r_deci_Parse_17 : ICode := .region r_deci_Parse_17_o [] [7, 17, 59, 60, 61, 87]
@[go_sem] theorem r_deci_Parse_17_u : go X (.c r_deci_Parse_17 :: K) s = goR X r_deci_Parse_17_o [7, 17, 59, 60, 61, 87] K s := go_region _ _
@[go_sem] def r_deci_Parse_18_o : List IOper := [
  ⟨(some 4), none, .asg (.c (.int .i64 0))⟩,
  ⟨(some 5), none, .asg (.c (.int .i64 4))⟩]
def r_deci_Parse_18 : ICode := .region r_deci_Parse_18_o [] [4, 5]
@[go_sem] theorem r_deci_Parse_18_u : go X (.c r_deci_Parse_18 :: K) s = goR X r_deci_Parse_18_o [4, 5] K s := go_region _ _
@[go_sem] def r_deci_Parse_19_o : List IOper := [
  ⟨(some 88), none, .mv (.t 17)⟩,
  ⟨(some 11), none, .asg (.t 88)⟩]
def r_deci_Parse_19 : ICode := .region r_deci_Parse_19_o [] [7, 11, 59, 60, 61]
@[go_sem] theorem r_deci_Parse_19_u : go X (.c r_deci_Parse_19 :: K) s = goR X r_deci_Parse_19_o [7, 11, 59, 60, 61] K s := go_region _ _
@[go_sem] def r_deci_Parse_20_o : List IOper := [
  ⟨(some 89), none, .bin .add (.t 61) (.c (.int .i64 1))⟩,
  ⟨(some 61), none, .mv (.t 89)⟩]
def r_deci_Parse_20 : ICode := .region r_deci_Parse_20_o [] [7, 11, 59, 60, 61]
@[go_sem] theorem r_deci_Parse_20_u : go X (.c r_deci_Parse_20 :: K) s = goR X r_deci_Parse_20_o [7, 11, 59, 60, 61] K s := go_region _ _
def b_deci_Parse_21 : ICode := (.seq r_deci_Parse_10 (.seq (.cond (.t 62) .skip (.exit 1)) (.seq (.block 2 (.seq r_deci_Parse_11 (.seq r_deci_Parse_12 (.seq (.seq r_deci_Parse_13 (.cond (.t 68) r_deci_Parse_14 .skip)) (.seq r_deci_Parse_15 (.seq r_deci_Parse_16 (.seq (.seq r_deci_Parse_17 (.cond (.t 87) (.seq r_deci_Parse_18 .ret) .skip)) r_deci_Parse_19))))))) r_deci_Parse_20)))
@[go_sem] theorem b_deci_Parse_21_u : go X (.c b_deci_Parse_21 :: K) s = go X (.c (.seq r_deci_Parse_10 (.seq (.cond (.t 62) .skip (.exit 1)) (.seq (.block 2 (.seq r_deci_Parse_11 (.seq r_deci_Parse_12 (.seq (.seq r_deci_Parse_13 (.cond (.t 68) r_deci_Parse_14 .skip)) (.seq r_deci_Parse_15 (.seq r_deci_Parse_16 (.seq (.seq r_deci_Parse_17 (.cond (.t 87) (.seq r_deci_Parse_18 .ret) .skip)) r_deci_Parse_19))))))) r_deci_Parse_20))) :: K) s := rfl
@[go_sem] def r_deci_Parse_22_o : List IOper := [
  ⟨(some 90), none, .mv (.t 11)⟩,
  ⟨(some 4), none, .asg (.t 90)⟩,
  ⟨(some 5), none, .asg (.c (.int .i64 0))⟩]
def r_deci_Parse_22 : ICode := .region r_deci_Parse_22_o [] [4, 5]
@[go_sem] theorem r_deci_Parse_22_u : go X (.c r_deci_Parse_22 :: K) s = goR X r_deci_Parse_22_o [4, 5] K s := go_region _ _
def c_deci_Parse : ICode := (.seq r_deci_Parse_0 (.seq r_deci_Parse_1 (.seq r_deci_Parse_2 (.seq r_deci_Parse_3 (.seq (.block 0 (.seq r_deci_Parse_4 (.cond (.t 33) (.seq r_deci_Parse_5 .ret) (.seq r_deci_Parse_6 (.cond (.t 45) (.seq r_deci_Parse_7 .ret) .skip))))) (.seq r_deci_Parse_8 (.seq (.seq r_deci_Parse_9 (.block 1 (.loop b_deci_Parse_21))) (.seq r_deci_Parse_22 .ret))))))))
def i_deci_Parse : IFunc := ⟨2, [.t 4, .t 5], c_deci_Parse⟩
def a_deci_Parse : Advice := ⟨[], [(21, [4, 5]), (20, [7, 11, 59, 60, 61]), (19, [7, 11, 59, 60, 61]), (18, [4, 5]), (17, [7, 17, 59, 60, 61, 87]), (16, [7, 16, 17, 18, 59, 60, 61]), (15, [7, 14, 15, 16, 59, 60, 61]), (14, [7, 11, 14, 59, 60, 61]), (13, [7, 11, 14, 59, 60, 61, 68]), (12, [7, 11, 14, 59, 60, 61]), (11, [7, 11, 13, 59, 60, 61]), (10, [7, 11, 59, 60, 61, 62]), (9, [7, 11, 59, 60, 61]), (8, [1, 7, 8, 9, 11]), (5, [4, 5]), (7, [4, 5]), (6, [1, 7, 8, 9, 45]), (4, [1, 7, 8, 9, 33]), (3, [1, 7, 8, 9, 10]), (2, [1, 6, 7]), (1, [0, 1]), (0, [0, 1])], [], [], []⟩
/-! ingot/ingotlaw11.known -/
@[go_sem] def r_ingotlaw11_known_0_o : List IOper := [
  ⟨(some 0), none, .asg (.c (.bool false))⟩]
def r_ingotlaw11_known_0 : ICode := .region r_ingotlaw11_known_0_o [] []
@[go_sem] theorem r_ingotlaw11_known_0_u : go X (.c r_ingotlaw11_known_0 :: K) s = goR X r_ingotlaw11_known_0_o [] K s := go_region _ _
@[go_sem] def r_ingotlaw11_known_1_o : List IOper := [
  ⟨(some 8), none, .call false n_deci_Parse [(.c (.str [45, 49, 50, 46, 53])), (.c (.int .i64 2))]⟩,
  ⟨(some 7), none, .mv (.t 8)⟩,
  ⟨(some 9), none, .ext (.t 7) 0⟩,
  ⟨(some 10), none, .ext (.t 7) 1⟩,
  ⟨(some 1), none, .asg (.t 9)⟩,
  ⟨(some 2), none, .asg (.t 10)⟩]
def r_ingotlaw11_known_1 : ICode := .region r_ingotlaw11_known_1_o [] [1, 2]
@[go_sem] theorem r_ingotlaw11_known_1_u : go X (.c r_ingotlaw11_known_1 :: K) s = goR X r_ingotlaw11_known_1_o [1, 2] K s := go_region _ _
@[go_sem] def r_ingotlaw11_known_2_o : List IOper := [
  ⟨(some 12), none, .lit false 1 2 (.int .i64 0) [(0, (.c (.int .i64 1))), (1, (.c (.int .i64 (-2))))]⟩,
  ⟨(some 13), none, .call false n_deci_Encode [(.t 12)]⟩,
  ⟨(some 14), none, .call false n_deci_Decode [(.t 13), (.c (.int .i64 2))]⟩,
  ⟨(some 11), none, .mv (.t 14)⟩,
  ⟨(some 15), none, .ext (.t 11) 0⟩,
  ⟨(some 16), none, .ext (.t 11) 1⟩,
  ⟨(some 3), none, .asg (.t 15)⟩,
  ⟨(some 4), none, .asg (.t 16)⟩]
def r_ingotlaw11_known_2 : ICode := .region r_ingotlaw11_known_2_o [] [1, 2, 3, 4]
@[go_sem] theorem r_ingotlaw11_known_2_u : go X (.c r_ingotlaw11_known_2 :: K) s = goR X r_ingotlaw11_known_2_o [1, 2, 3, 4] K s := go_region _ _
@[go_sem] def r_ingotlaw11_known_3_o : List IOper := [
  ⟨(some 18), none, .call false n_deci_Rescale [(.c (.int .i64 125)), (.c (.int .i64 1)), (.c (.int .i64 3))]⟩,
  ⟨(some 17), none, .mv (.t 18)⟩,
  ⟨(some 19), none, .ext (.t 17) 0⟩,
  ⟨(some 20), none, .ext (.t 17) 1⟩,
  ⟨(some 5), none, .asg (.t 19)⟩,
  ⟨(some 6), none, .asg (.t 20)⟩]
def r_ingotlaw11_known_3 : ICode := .region r_ingotlaw11_known_3_o [] [1, 2, 3, 4, 5, 6]
@[go_sem] theorem r_ingotlaw11_known_3_u : go X (.c r_ingotlaw11_known_3 :: K) s = goR X r_ingotlaw11_known_3_o [1, 2, 3, 4, 5, 6] K s := go_region _ _
@[go_sem] def r_ingotlaw11_known_4_o : List IOper := [
  ⟨(some 21), none, .call false n_deci_Text [(.c (.int .i64 (-1250))), (.c (.int .i64 2))]⟩,
  ⟨(some 22), none, .bin .eql (.t 21) (.c (.str [45, 49, 50, 46, 53, 48]))⟩,
  ⟨(some 23), none, .mv (.t 22)⟩,
  ⟨(some 24), some (23, true), .mv (.t 2)⟩,
  ⟨(some 25), some (23, true), .mv (.t 4)⟩,
  ⟨(some 26), some (23, true), .bin .add (.t 24) (.t 25)⟩,
  ⟨(some 27), some (23, true), .bin .eql (.t 26) (.c (.int .i64 0))⟩,
  ⟨(some 28), none, .pick (.t 23) (.t 27) (.c (.bool false))⟩,
  ⟨(some 29), none, .mv (.t 28)⟩,
  ⟨(some 30), some (29, true), .mv (.t 1)⟩,
  ⟨(some 31), some (29, true), .bin .eql (.t 30) (.c (.int .i64 (-1250)))⟩,
  ⟨(some 32), none, .pick (.t 29) (.t 31) (.c (.bool false))⟩,
  ⟨(some 33), none, .mv (.t 32)⟩,
  ⟨(some 34), some (33, true), .mv (.t 3)⟩,
  ⟨(some 35), some (33, true), .len false (.t 34)⟩,
  ⟨(some 36), some (33, true), .bin .eql (.t 35) (.c (.int .i64 2))⟩,
  ⟨(some 37), none, .pick (.t 33) (.t 36) (.c (.bool false))⟩,
  ⟨(some 38), none, .mv (.t 37)⟩,
  ⟨(some 39), some (38, true), .mv (.t 3)⟩,
  ⟨(some 40), some (38, true), .idxA 1 (.t 39) (.c (.int .i64 1))⟩,
  ⟨(some 41), some (38, true), .load none (.t 40)⟩,
  ⟨(some 42), some (38, true), .bin .eql (.t 41) (.c (.int .i64 (-2)))⟩,
  ⟨(some 43), none, .pick (.t 38) (.t 42) (.c (.bool false))⟩,
  ⟨(some 44), none, .mv (.t 43)⟩,
  ⟨(some 45), some (44, true), .mv (.t 5)⟩,
  ⟨(some 46), some (44, true), .bin .eql (.t 45) (.c (.int .i64 12500))⟩,
  ⟨(some 47), none, .pick (.t 44) (.t 46) (.c (.bool false))⟩,
  ⟨(some 48), none, .mv (.t 47)⟩,
  ⟨(some 49), some (48, true), .mv (.t 6)⟩,
  ⟨(some 50), none, .pick (.t 48) (.t 49) (.c (.bool false))⟩,
  ⟨(some 51), none, .mv (.t 50)⟩,
  ⟨(some 52), some (51, true), .call false n_deci_Compare [(.c (.int .i64 10)), (.c (.int .i64 1)), (.c (.int .i64 1)), (.c (.int .i64 0))]⟩,
  ⟨(some 53), some (51, true), .bin .eql (.t 52) (.c (.int .i64 0))⟩,
  ⟨(some 54), none, .pick (.t 51) (.t 53) (.c (.bool false))⟩,
  ⟨(some 55), none, .mv (.t 54)⟩,
  ⟨(some 56), some (55, true), .call false n_deci_Digits [(.c (.int .i64 100))]⟩,
  ⟨(some 57), some (55, true), .bin .eql (.t 56) (.c (.int .i64 3))⟩,
  ⟨(some 58), none, .pick (.t 55) (.t 57) (.c (.bool false))⟩,
  ⟨(some 0), none, .asg (.t 58)⟩]
def r_ingotlaw11_known_4 : ICode := .region r_ingotlaw11_known_4_o [] [0]
@[go_sem] theorem r_ingotlaw11_known_4_u : go X (.c r_ingotlaw11_known_4 :: K) s = goR X r_ingotlaw11_known_4_o [0] K s := go_region _ _
def c_ingotlaw11_known : ICode := (.seq r_ingotlaw11_known_0 (.seq r_ingotlaw11_known_1 (.seq r_ingotlaw11_known_2 (.seq r_ingotlaw11_known_3 (.seq r_ingotlaw11_known_4 .ret)))))
def i_ingotlaw11_known : IFunc := ⟨0, [.t 0], c_ingotlaw11_known⟩
def a_ingotlaw11_known : Advice := ⟨[], [(4, [0]), (3, [1, 2, 3, 4, 5, 6]), (2, [1, 2, 3, 4]), (1, [1, 2]), (0, [])], [], [], []⟩
/-! ingot/ingotlaw11.DeciStreams -/
@[go_sem] def r_ingotlaw11_DeciStreams_0_o : List IOper := [
  ⟨(some 6), none, .asg (.c (.bool false))⟩]
def r_ingotlaw11_DeciStreams_0 : ICode := .region r_ingotlaw11_DeciStreams_0_o [] [0, 1, 2]
@[go_sem] theorem r_ingotlaw11_DeciStreams_0_u : go X (.c r_ingotlaw11_DeciStreams_0 :: K) s = goR X r_ingotlaw11_DeciStreams_0_o [0, 1, 2] K s := go_region _ _
@[go_sem] def r_ingotlaw11_DeciStreams_1_o : List IOper := [
  ⟨(some 14), none, .call false n_ingotlaw11_known []⟩,
  ⟨(some 15), none, .un .not (.t 14)⟩]
def r_ingotlaw11_DeciStreams_1 : ICode := .region r_ingotlaw11_DeciStreams_1_o [] [0, 1, 2, 15]
@[go_sem] theorem r_ingotlaw11_DeciStreams_1_u : go X (.c r_ingotlaw11_DeciStreams_1 :: K) s = goR X r_ingotlaw11_DeciStreams_1_o [0, 1, 2, 15] K s := go_region _ _
@[go_sem] def r_ingotlaw11_DeciStreams_2_o : List IOper := [
  ⟨(some 6), none, .asg (.c (.bool false))⟩]
def r_ingotlaw11_DeciStreams_2 : ICode := .region r_ingotlaw11_DeciStreams_2_o [] [6]
@[go_sem] theorem r_ingotlaw11_DeciStreams_2_u : go X (.c r_ingotlaw11_DeciStreams_2 :: K) s = goR X r_ingotlaw11_DeciStreams_2_o [6] K s := go_region _ _
@[go_sem] def r_ingotlaw11_DeciStreams_3_o : List IOper := [
  ⟨(some 16), none, .mv (.t 0)⟩,
  ⟨(some 17), none, .len false (.t 16)⟩,
  ⟨(some 18), none, .bin .gtr (.t 17) (.c (.int .i64 1000))⟩,
  ⟨(some 19), none, .mv (.t 18)⟩,
  ⟨(some 20), some (19, false), .mv (.t 2)⟩,
  ⟨(some 21), some (19, false), .len false (.t 20)⟩,
  ⟨(some 22), some (19, false), .bin .gtr (.t 21) (.c (.int .i64 1000))⟩,
  ⟨(some 23), none, .pick (.t 19) (.c (.bool true)) (.t 22)⟩]
def r_ingotlaw11_DeciStreams_3 : ICode := .region r_ingotlaw11_DeciStreams_3_o [] [0, 1, 2, 23]
@[go_sem] theorem r_ingotlaw11_DeciStreams_3_u : go X (.c r_ingotlaw11_DeciStreams_3 :: K) s = goR X r_ingotlaw11_DeciStreams_3_o [0, 1, 2, 23] K s := go_region _ _
@[go_sem] def r_ingotlaw11_DeciStreams_4_o : List IOper := [
  ⟨(some 6), none, .asg (.c (.bool true))⟩]
def r_ingotlaw11_DeciStreams_4 : ICode := .region r_ingotlaw11_DeciStreams_4_o [] [6]
@[go_sem] theorem r_ingotlaw11_DeciStreams_4_u : go X (.c r_ingotlaw11_DeciStreams_4 :: K) s = goR X r_ingotlaw11_DeciStreams_4_o [6] K s := go_region _ _
@[go_sem] def r_ingotlaw11_DeciStreams_5_o : List IOper := [
  ⟨(some 25), none, .mv (.t 0)⟩,
  ⟨(some 26), none, .mv (.t 1)⟩,
  ⟨(some 27), none, .call false n_deci_Decode [(.t 25), (.t 26)]⟩,
  ⟨(some 24), none, .mv (.t 27)⟩,
  ⟨(some 28), none, .ext (.t 24) 0⟩,
  ⟨(some 29), none, .ext (.t 24) 1⟩,
  ⟨(some 7), none, .asg (.t 28)⟩,
  ⟨(some 8), none, .asg (.t 29)⟩]
def r_ingotlaw11_DeciStreams_5 : ICode := .region r_ingotlaw11_DeciStreams_5_o [] [0, 1, 2, 7, 8]
@[go_sem] theorem r_ingotlaw11_DeciStreams_5_u : go X (.c r_ingotlaw11_DeciStreams_5 :: K) s = goR X r_ingotlaw11_DeciStreams_5_o [0, 1, 2, 7, 8] K s := go_region _ _
@[go_sem] def r_ingotlaw11_DeciStreams_6_o : List IOper := [
  ⟨(some 31), none, .mv (.t 0)⟩,
  ⟨(some 32), none, .mv (.t 1)⟩,
  ⟨(some 33), none, .call false n_ingotref11_Decode [(.t 31), (.t 32)]⟩,
  ⟨(some 30), none, .mv (.t 33)⟩,
  ⟨(some 34), none, .ext (.t 30) 0⟩,
  ⟨(some 35), none, .ext (.t 30) 1⟩,
  ⟨(some 9), none, .asg (.t 34)⟩,
  ⟨(some 10), none, .asg (.t 35)⟩]
def r_ingotlaw11_DeciStreams_6 : ICode := .region r_ingotlaw11_DeciStreams_6_o [] [2, 7, 8, 9, 10]
@[go_sem] theorem r_ingotlaw11_DeciStreams_6_u : go X (.c r_ingotlaw11_DeciStreams_6 :: K) s = goR X r_ingotlaw11_DeciStreams_6_o [2, 7, 8, 9, 10] K s := go_region _ _
@[go_sem] def r_ingotlaw11_DeciStreams_7_o : List IOper := [
  ⟨(some 36), none, .mv (.t 2)⟩,
  ⟨(some 37), none, .call false n_deci_Encode [(.t 36)]⟩,
  ⟨(some 11), none, .asg (.t 37)⟩]
def r_ingotlaw11_DeciStreams_7 : ICode := .region r_ingotlaw11_DeciStreams_7_o [] [2, 7, 8, 9, 10, 11]
@[go_sem] theorem r_ingotlaw11_DeciStreams_7_u : go X (.c r_ingotlaw11_DeciStreams_7 :: K) s = goR X r_ingotlaw11_DeciStreams_7_o [2, 7, 8, 9, 10, 11] K s := go_region _ _
@[go_sem] def r_ingotlaw11_DeciStreams_8_o : List IOper := [
  ⟨(some 39), none, .mv (.t 11)⟩,
  ⟨(some 40), none, .mv (.t 2)⟩,
  ⟨(some 41), none, .len false (.t 40)⟩,
  ⟨(some 42), none, .call false n_deci_Decode [(.t 39), (.t 41)]⟩,
  ⟨(some 38), none, .mv (.t 42)⟩,
  ⟨(some 43), none, .ext (.t 38) 0⟩,
  ⟨(some 44), none, .ext (.t 38) 1⟩,
  ⟨(some 12), none, .asg (.t 43)⟩,
  ⟨(some 13), none, .asg (.t 44)⟩]
def r_ingotlaw11_DeciStreams_8 : ICode := .region r_ingotlaw11_DeciStreams_8_o [] [2, 7, 8, 9, 10, 11, 12, 13]
@[go_sem] theorem r_ingotlaw11_DeciStreams_8_u : go X (.c r_ingotlaw11_DeciStreams_8 :: K) s = goR X r_ingotlaw11_DeciStreams_8_o [2, 7, 8, 9, 10, 11, 12, 13] K s := go_region _ _
@[go_sem] def r_ingotlaw11_DeciStreams_9_o : List IOper := [
  ⟨(some 45), none, .mv (.t 7)⟩,
  ⟨(some 46), none, .mv (.t 9)⟩,
  ⟨(some 47), none, .call false n_ingotlaw8_Same [(.t 45), (.t 46)]⟩,
  ⟨(some 48), none, .mv (.t 47)⟩,
  ⟨(some 49), some (48, true), .mv (.t 8)⟩,
  ⟨(some 50), some (48, true), .mv (.t 10)⟩,
  ⟨(some 51), some (48, true), .bin .eql (.t 49) (.t 50)⟩,
  ⟨(some 52), none, .pick (.t 48) (.t 51) (.c (.bool false))⟩,
  ⟨(some 53), none, .mv (.t 52)⟩,
  ⟨(some 54), some (53, true), .mv (.t 11)⟩,
  ⟨(some 55), some (53, true), .b2s (.t 54)⟩,
  ⟨(some 56), some (53, true), .mv (.t 2)⟩,
  ⟨(some 57), some (53, true), .call false n_ingotref11_Encode [(.t 56)]⟩,
  ⟨(some 58), some (53, true), .b2s (.t 57)⟩,
  ⟨(some 59), some (53, true), .bin .eql (.t 55) (.t 58)⟩,
  ⟨(some 60), none, .pick (.t 53) (.t 59) (.c (.bool false))⟩,
  ⟨(some 61), none, .mv (.t 60)⟩,
  ⟨(some 62), some (61, true), .mv (.t 13)⟩,
  ⟨(some 63), some (61, true), .bin .eql (.t 62) (.c (.int .i64 0))⟩,
  ⟨(some 64), none, .pick (.t 61) (.t 63) (.c (.bool false))⟩,
  ⟨(some 65), none, .mv (.t 64)⟩,
  ⟨(some 66), some (65, true), .mv (.t 12)⟩,
  ⟨(some 67), some (65, true), .mv (.t 2)⟩,
  ⟨(some 68), some (65, true), .call false n_ingotlaw8_Same [(.t 66), (.t 67)]⟩,
  ⟨(some 69), none, .pick (.t 65) (.t 68) (.c (.bool false))⟩,
  ⟨(some 6), none, .asg (.t 69)⟩]
def r_ingotlaw11_DeciStreams_9_n : List (Nat × Nat) := [(0, 1), (4, 5), (9, 11), (10, 11), (9, 12), (10, 12), (9, 13), (10, 13), (21, 22)]
def r_ingotlaw11_DeciStreams_9 : ICode := .region r_ingotlaw11_DeciStreams_9_o r_ingotlaw11_DeciStreams_9_n [6]
@[go_sem] theorem r_ingotlaw11_DeciStreams_9_u : go X (.c r_ingotlaw11_DeciStreams_9 :: K) s = goRU X [] r_ingotlaw11_DeciStreams_9_n r_ingotlaw11_DeciStreams_9_o [6] K s := go_regionU' _ _ _ _
def c_ingotlaw11_DeciStreams : ICode := (.seq r_ingotlaw11_DeciStreams_0 (.seq r_ingotlaw11_DeciStreams_1 (.cond (.t 15) (.seq r_ingotlaw11_DeciStreams_2 .ret) (.seq r_ingotlaw11_DeciStreams_3 (.cond (.t 23) (.seq r_ingotlaw11_DeciStreams_4 .ret) (.seq r_ingotlaw11_DeciStreams_5 (.seq r_ingotlaw11_DeciStreams_6 (.seq r_ingotlaw11_DeciStreams_7 (.seq r_ingotlaw11_DeciStreams_8 (.seq r_ingotlaw11_DeciStreams_9 .ret))))))))))
def i_ingotlaw11_DeciStreams : IFunc := ⟨3, [.t 6], c_ingotlaw11_DeciStreams⟩
def a_ingotlaw11_DeciStreams : Advice := ⟨[], [(9, [6]), (8, [2, 7, 8, 9, 10, 11, 12, 13]), (7, [2, 7, 8, 9, 10, 11]), (6, [2, 7, 8, 9, 10]), (5, [0, 1, 2, 7, 8]), (4, [6]), (3, [0, 1, 2, 23]), (2, [6]), (1, [0, 1, 2, 15]), (0, [0, 1, 2])], [], [], []⟩
/-! the table -/
def tbl : List (FuncId × IFunc) := [(n_ingotlaw11_DeciChain, i_ingotlaw11_DeciChain), (n_ingotlaw11_DeciSigns, i_ingotlaw11_DeciSigns), (n_ingotlaw11_DeciAdds, i_ingotlaw11_DeciAdds), (n_ingotref1_Sub, i_ingotref1_Sub), (n_ingotref11_Compare, i_ingotref11_Compare), (n_ingotlaw11_DeciOrder, i_ingotlaw11_DeciOrder), (n_ingotref11_Rescale, i_ingotref11_Rescale), (n_ingotlaw11_DeciScales, i_ingotlaw11_DeciScales), (n_ingotref11_Digits, i_ingotref11_Digits), (n_ingotref11_digits, i_ingotref11_digits), (n_ingotref11_size, i_ingotref11_size), (n_ingotref11_Text, i_ingotref11_Text), (n_ingotref1_Add, i_ingotref1_Add), (n_ingotref1_size, i_ingotref1_size), (n_ingotref1_Mul, i_ingotref1_Mul), (n_ingotref11_Parse, i_ingotref11_Parse), (n_ingotlaw11_scale, i_ingotlaw11_scale), (n_ingotlaw11_DeciTexts, i_ingotlaw11_DeciTexts), (n_ingotref1_PutVar, i_ingotref1_PutVar), (n_ingotref1_Zig, i_ingotref1_Zig), (n_ingotref11_Encode, i_ingotref11_Encode), (n_ingotlaw8_Same, i_ingotlaw8_Same), (n_ingotref1_Zag, i_ingotref1_Zag), (n_ingotref1_Var, i_ingotref1_Var), (n_ingotref11_Decode, i_ingotref11_Decode), (n_deci_Digits, i_deci_Digits), (n_deci_Compare, i_deci_Compare), (n_deci_size, i_deci_size), (n_deci_Text, i_deci_Text), (n_deci_power, i_deci_power), (n_deci_Rescale, i_deci_Rescale), (n_nums_Zag, i_nums_Zag), (n_nums_Var, i_nums_Var), (n_deci_Decode, i_deci_Decode), (n_slices_Clone_Sbyte_byte, i_slices_Clone_Sbyte_byte), (n_nums_PutVar, i_nums_PutVar), (n_nums_Zig, i_nums_Zig), (n_deci_Encode, i_deci_Encode), (n_nums_Add, i_nums_Add), (n_nums_size, i_nums_size), (n_nums_Mul, i_nums_Mul), (n_deci_plain, i_deci_plain), (n_stringslite_Cut, i_stringslite_Cut), (n_strings_Cut, i_strings_Cut), (n_stringslite_HasPrefix, i_stringslite_HasPrefix), (n_stringslite_CutPrefix, i_stringslite_CutPrefix), (n_strings_CutPrefix, i_strings_CutPrefix), (n_deci_Parse, i_deci_Parse), (n_ingotlaw11_known, i_ingotlaw11_known), (n_ingotlaw11_DeciStreams, i_ingotlaw11_DeciStreams)]
def clips : List FuncId := [n_slices_Clip_Sint64_int64, n_slices_Clip_Sbyte_byte]
set_option maxRecDepth 100000 in
theorem k_ingotlaw11_DeciChain : cFunc Tryd.prog a_ingotlaw11_DeciChain Tryd.f9 = some i_ingotlaw11_DeciChain := by kernel_rfl
set_option maxRecDepth 100000 in
theorem k_ingotlaw11_DeciSigns : cFunc Tryd.prog a_ingotlaw11_DeciSigns Tryd.f8 = some i_ingotlaw11_DeciSigns := by kernel_rfl
set_option maxRecDepth 100000 in
theorem k_ingotlaw11_DeciAdds : cFunc Tryd.prog a_ingotlaw11_DeciAdds Tryd.f7 = some i_ingotlaw11_DeciAdds := by kernel_rfl
set_option maxRecDepth 100000 in
theorem k_ingotref1_Sub : cFunc Tryd.prog a_ingotref1_Sub Tryd.f27 = some i_ingotref1_Sub := by kernel_rfl
set_option maxRecDepth 100000 in
theorem k_ingotref11_Compare : cFunc Tryd.prog a_ingotref11_Compare Tryd.f26 = some i_ingotref11_Compare := by kernel_rfl
set_option maxRecDepth 100000 in
theorem k_ingotlaw11_DeciOrder : cFunc Tryd.prog a_ingotlaw11_DeciOrder Tryd.f6 = some i_ingotlaw11_DeciOrder := by kernel_rfl
set_option maxRecDepth 100000 in
theorem k_ingotref11_Rescale : cFunc Tryd.prog a_ingotref11_Rescale Tryd.f24 = some i_ingotref11_Rescale := by kernel_rfl
set_option maxRecDepth 100000 in
theorem k_ingotlaw11_DeciScales : cFunc Tryd.prog a_ingotlaw11_DeciScales Tryd.f5 = some i_ingotlaw11_DeciScales := by kernel_rfl
set_option maxRecDepth 100000 in
theorem k_ingotref11_Digits : cFunc Tryd.prog a_ingotref11_Digits Tryd.f22 = some i_ingotref11_Digits := by kernel_rfl
set_option maxRecDepth 100000 in
theorem k_ingotref11_digits : cFunc Tryd.prog a_ingotref11_digits Tryd.f48 = some i_ingotref11_digits := by kernel_rfl
set_option maxRecDepth 100000 in
theorem k_ingotref11_size : cFunc Tryd.prog a_ingotref11_size Tryd.f49 = some i_ingotref11_size := by kernel_rfl
set_option maxRecDepth 100000 in
theorem k_ingotref11_Text : cFunc Tryd.prog a_ingotref11_Text Tryd.f20 = some i_ingotref11_Text := by kernel_rfl
set_option maxRecDepth 100000 in
theorem k_ingotref1_Add : cFunc Tryd.prog a_ingotref1_Add Tryd.f47 = some i_ingotref1_Add := by kernel_rfl
set_option maxRecDepth 100000 in
theorem k_ingotref1_size : cFunc Tryd.prog a_ingotref1_size Tryd.f64 = some i_ingotref1_size := by kernel_rfl
set_option maxRecDepth 100000 in
theorem k_ingotref1_Mul : cFunc Tryd.prog a_ingotref1_Mul Tryd.f46 = some i_ingotref1_Mul := by kernel_rfl
set_option maxRecDepth 100000 in
theorem k_ingotref11_Parse : cFunc Tryd.prog a_ingotref11_Parse Tryd.f19 = some i_ingotref11_Parse := by kernel_rfl
set_option maxRecDepth 100000 in
theorem k_ingotlaw11_scale : cFunc Tryd.prog a_ingotlaw11_scale Tryd.f16 = some i_ingotlaw11_scale := by kernel_rfl
set_option maxRecDepth 100000 in
theorem k_ingotlaw11_DeciTexts : cFunc Tryd.prog a_ingotlaw11_DeciTexts Tryd.f4 = some i_ingotlaw11_DeciTexts := by kernel_rfl
set_option maxRecDepth 100000 in
theorem k_ingotref1_PutVar : cFunc Tryd.prog a_ingotref1_PutVar Tryd.f36 = some i_ingotref1_PutVar := by kernel_rfl
set_option maxRecDepth 100000 in
theorem k_ingotref1_Zig : cFunc Tryd.prog a_ingotref1_Zig Tryd.f37 = some i_ingotref1_Zig := by kernel_rfl
set_option maxRecDepth 100000 in
theorem k_ingotref11_Encode : cFunc Tryd.prog a_ingotref11_Encode Tryd.f15 = some i_ingotref11_Encode := by kernel_rfl
set_option maxRecDepth 100000 in
theorem k_ingotlaw8_Same : cFunc Tryd.prog a_ingotlaw8_Same Tryd.f14 = some i_ingotlaw8_Same := by kernel_rfl
set_option maxRecDepth 100000 in
theorem k_ingotref1_Zag : cFunc Tryd.prog a_ingotref1_Zag Tryd.f32 = some i_ingotref1_Zag := by kernel_rfl
set_option maxRecDepth 100000 in
theorem k_ingotref1_Var : cFunc Tryd.prog a_ingotref1_Var Tryd.f31 = some i_ingotref1_Var := by kernel_rfl
set_option maxRecDepth 100000 in
theorem k_ingotref11_Decode : cFunc Tryd.prog a_ingotref11_Decode Tryd.f12 = some i_ingotref11_Decode := by kernel_rfl
set_option maxRecDepth 100000 in
theorem k_deci_Digits : cFunc Tryd.prog a_deci_Digits Tryd.f21 = some i_deci_Digits := by kernel_rfl
set_option maxRecDepth 100000 in
theorem k_deci_Compare : cFunc Tryd.prog a_deci_Compare Tryd.f25 = some i_deci_Compare := by kernel_rfl
set_option maxRecDepth 100000 in
theorem k_deci_size : cFunc Tryd.prog a_deci_size Tryd.f39 = some i_deci_size := by kernel_rfl
set_option maxRecDepth 100000 in
theorem k_deci_Text : cFunc Tryd.prog a_deci_Text Tryd.f17 = some i_deci_Text := by kernel_rfl
set_option maxRecDepth 100000 in
theorem k_deci_power : cFunc Tryd.prog a_deci_power Tryd.f50 = some i_deci_power := by kernel_rfl
set_option maxRecDepth 100000 in
theorem k_deci_Rescale : cFunc Tryd.prog a_deci_Rescale Tryd.f23 = some i_deci_Rescale := by kernel_rfl
set_option maxRecDepth 100000 in
theorem k_nums_Zag : cFunc Tryd.prog a_nums_Zag Tryd.f29 = some i_nums_Zag := by kernel_rfl
set_option maxRecDepth 100000 in
theorem k_nums_Var : cFunc Tryd.prog a_nums_Var Tryd.f28 = some i_nums_Var := by kernel_rfl
set_option maxRecDepth 100000 in
theorem k_deci_Decode : cFunc Tryd.prog a_deci_Decode Tryd.f11 = some i_deci_Decode := by kernel_rfl
set_option maxRecDepth 100000 in
theorem k_slices_Clone_Sbyte_byte : cFunc Tryd.prog a_slices_Clone_Sbyte_byte Tryd.f52 = some i_slices_Clone_Sbyte_byte := by kernel_rfl
set_option maxRecDepth 100000 in
theorem k_nums_PutVar : cFunc Tryd.prog a_nums_PutVar Tryd.f33 = some i_nums_PutVar := by kernel_rfl
set_option maxRecDepth 100000 in
theorem k_nums_Zig : cFunc Tryd.prog a_nums_Zig Tryd.f34 = some i_nums_Zig := by kernel_rfl
set_option maxRecDepth 100000 in
theorem k_deci_Encode : cFunc Tryd.prog a_deci_Encode Tryd.f13 = some i_deci_Encode := by kernel_rfl
set_option maxRecDepth 100000 in
theorem k_nums_Add : cFunc Tryd.prog a_nums_Add Tryd.f45 = some i_nums_Add := by kernel_rfl
set_option maxRecDepth 100000 in
theorem k_nums_size : cFunc Tryd.prog a_nums_size Tryd.f63 = some i_nums_size := by kernel_rfl
set_option maxRecDepth 100000 in
theorem k_nums_Mul : cFunc Tryd.prog a_nums_Mul Tryd.f44 = some i_nums_Mul := by kernel_rfl
set_option maxRecDepth 100000 in
theorem k_deci_plain : cFunc Tryd.prog a_deci_plain Tryd.f43 = some i_deci_plain := by kernel_rfl
set_option maxRecDepth 100000 in
theorem k_stringslite_Cut : cFunc Tryd.prog a_stringslite_Cut Tryd.f61 = some i_stringslite_Cut := by kernel_rfl
set_option maxRecDepth 100000 in
theorem k_strings_Cut : cFunc Tryd.prog a_strings_Cut Tryd.f42 = some i_strings_Cut := by kernel_rfl
set_option maxRecDepth 100000 in
theorem k_stringslite_HasPrefix : cFunc Tryd.prog a_stringslite_HasPrefix Tryd.f70 = some i_stringslite_HasPrefix := by kernel_rfl
set_option maxRecDepth 100000 in
theorem k_stringslite_CutPrefix : cFunc Tryd.prog a_stringslite_CutPrefix Tryd.f60 = some i_stringslite_CutPrefix := by kernel_rfl
set_option maxRecDepth 100000 in
theorem k_strings_CutPrefix : cFunc Tryd.prog a_strings_CutPrefix Tryd.f41 = some i_strings_CutPrefix := by kernel_rfl
set_option maxRecDepth 100000 in
theorem k_deci_Parse : cFunc Tryd.prog a_deci_Parse Tryd.f18 = some i_deci_Parse := by kernel_rfl
set_option maxRecDepth 100000 in
theorem k_ingotlaw11_known : cFunc Tryd.prog a_ingotlaw11_known Tryd.f10 = some i_ingotlaw11_known := by kernel_rfl
set_option maxRecDepth 100000 in
theorem k_ingotlaw11_DeciStreams : cFunc Tryd.prog a_ingotlaw11_DeciStreams Tryd.f3 = some i_ingotlaw11_DeciStreams := by kernel_rfl
theorem tbl_ok : Entries Tryd.prog tbl :=
  .cons (.of Tryd.func9 (by kernel_rfl) k_ingotlaw11_DeciChain) <|
  .cons (.of Tryd.func8 (by kernel_rfl) k_ingotlaw11_DeciSigns) <|
  .cons (.of Tryd.func7 (by kernel_rfl) k_ingotlaw11_DeciAdds) <|
  .cons (.of Tryd.func27 (by kernel_rfl) k_ingotref1_Sub) <|
  .cons (.of Tryd.func26 (by kernel_rfl) k_ingotref11_Compare) <|
  .cons (.of Tryd.func6 (by kernel_rfl) k_ingotlaw11_DeciOrder) <|
  .cons (.of Tryd.func24 (by kernel_rfl) k_ingotref11_Rescale) <|
  .cons (.of Tryd.func5 (by kernel_rfl) k_ingotlaw11_DeciScales) <|
  .cons (.of Tryd.func22 (by kernel_rfl) k_ingotref11_Digits) <|
  .cons (.of Tryd.func48 (by kernel_rfl) k_ingotref11_digits) <|
  .cons (.of Tryd.func49 (by kernel_rfl) k_ingotref11_size) <|
  .cons (.of Tryd.func20 (by kernel_rfl) k_ingotref11_Text) <|
  .cons (.of Tryd.func47 (by kernel_rfl) k_ingotref1_Add) <|
  .cons (.of Tryd.func64 (by kernel_rfl) k_ingotref1_size) <|
  .cons (.of Tryd.func46 (by kernel_rfl) k_ingotref1_Mul) <|
  .cons (.of Tryd.func19 (by kernel_rfl) k_ingotref11_Parse) <|
  .cons (.of Tryd.func16 (by kernel_rfl) k_ingotlaw11_scale) <|
  .cons (.of Tryd.func4 (by kernel_rfl) k_ingotlaw11_DeciTexts) <|
  .cons (.of Tryd.func36 (by kernel_rfl) k_ingotref1_PutVar) <|
  .cons (.of Tryd.func37 (by kernel_rfl) k_ingotref1_Zig) <|
  .cons (.of Tryd.func15 (by kernel_rfl) k_ingotref11_Encode) <|
  .cons (.of Tryd.func14 (by kernel_rfl) k_ingotlaw8_Same) <|
  .cons (.of Tryd.func32 (by kernel_rfl) k_ingotref1_Zag) <|
  .cons (.of Tryd.func31 (by kernel_rfl) k_ingotref1_Var) <|
  .cons (.of Tryd.func12 (by kernel_rfl) k_ingotref11_Decode) <|
  .cons (.of Tryd.func21 (by kernel_rfl) k_deci_Digits) <|
  .cons (.of Tryd.func25 (by kernel_rfl) k_deci_Compare) <|
  .cons (.of Tryd.func39 (by kernel_rfl) k_deci_size) <|
  .cons (.of Tryd.func17 (by kernel_rfl) k_deci_Text) <|
  .cons (.of Tryd.func50 (by kernel_rfl) k_deci_power) <|
  .cons (.of Tryd.func23 (by kernel_rfl) k_deci_Rescale) <|
  .cons (.of Tryd.func29 (by kernel_rfl) k_nums_Zag) <|
  .cons (.of Tryd.func28 (by kernel_rfl) k_nums_Var) <|
  .cons (.of Tryd.func11 (by kernel_rfl) k_deci_Decode) <|
  .cons (.of Tryd.func52 (by kernel_rfl) k_slices_Clone_Sbyte_byte) <|
  .cons (.of Tryd.func33 (by kernel_rfl) k_nums_PutVar) <|
  .cons (.of Tryd.func34 (by kernel_rfl) k_nums_Zig) <|
  .cons (.of Tryd.func13 (by kernel_rfl) k_deci_Encode) <|
  .cons (.of Tryd.func45 (by kernel_rfl) k_nums_Add) <|
  .cons (.of Tryd.func63 (by kernel_rfl) k_nums_size) <|
  .cons (.of Tryd.func44 (by kernel_rfl) k_nums_Mul) <|
  .cons (.of Tryd.func43 (by kernel_rfl) k_deci_plain) <|
  .cons (.of Tryd.func61 (by kernel_rfl) k_stringslite_Cut) <|
  .cons (.of Tryd.func42 (by kernel_rfl) k_strings_Cut) <|
  .cons (.of Tryd.func70 (by kernel_rfl) k_stringslite_HasPrefix) <|
  .cons (.of Tryd.func60 (by kernel_rfl) k_stringslite_CutPrefix) <|
  .cons (.of Tryd.func41 (by kernel_rfl) k_strings_CutPrefix) <|
  .cons (.of Tryd.func18 (by kernel_rfl) k_deci_Parse) <|
  .cons (.of Tryd.func10 (by kernel_rfl) k_ingotlaw11_known) <|
  .cons (.of Tryd.func3 (by kernel_rfl) k_ingotlaw11_DeciStreams) <|
  .nil

/-! what is known besides -/
def exts : FuncId → Option (List D → Option V) := fun f => if f = n_strconv_FormatUint then some xFmtU else if f = n_bits_Mul64 then some xMul64 else if f = n_strings_Repeat then some xRepeat else if f = n_strings_Trim then some xTrim else if f = n_stringslite_Index then some xIndex1 else none
def pow10 : Array Value := (Lib.pow10Tab.map fun z => Value.int .u64 z).toArray
def gobjs : Nat → Option (Array Value) := fun n => if n = 0 then some pow10 else none
def cfg : Cfg := { funcs := lk tbl, meth := fun _ _ => none, glob := fun _ => none, gobj := gobjs, intTy := fun _ => false, clip := fun f => clips.contains f, ext := exts }
-- CODE2
abbrev X_ingotlaw11_DeciChain : Kx := ⟨cfg, 0, [.t 12]⟩
theorem o_ingotlaw11_DeciChain (x0 x1 x2 x3 x4 x5 : D) : evL cfg n_ingotlaw11_DeciChain 0 [.d x0, .d x1, .d x2, .d x3, .d x4, .d x5] [] = go X_ingotlaw11_DeciChain [.c c_ingotlaw11_DeciChain] ⟨[(0, .d x0), (1, .d x1), (2, .d x2), (3, .d x3), (4, .d x4), (5, .d x5)], []⟩ := evL_go (fn := i_ingotlaw11_DeciChain) rfl rfl _ _ _ rfl rfl
@[go_sem] theorem u_ingotlaw11_DeciChain (orc : Orc) (dep : Nat) (s : Get) (k : Nat) (own : Bool) (args : List IOpd) : stepU cfg orc dep s ⟨some k, none, .call own n_ingotlaw11_DeciChain args⟩ = (vals cfg s args).bind fun vs => callU orc s (some k) own n_ingotlaw11_DeciChain vs := U_call' s k own _ args rfl
abbrev X_ingotlaw11_DeciSigns : Kx := ⟨cfg, 0, [.t 4]⟩
theorem o_ingotlaw11_DeciSigns (x0 x1 : D) : evL cfg n_ingotlaw11_DeciSigns 0 [.d x0, .d x1] [] = go X_ingotlaw11_DeciSigns [.c c_ingotlaw11_DeciSigns] ⟨[(0, .d x0), (1, .d x1)], []⟩ := evL_go (fn := i_ingotlaw11_DeciSigns) rfl rfl _ _ _ rfl rfl
@[go_sem] theorem u_ingotlaw11_DeciSigns (orc : Orc) (dep : Nat) (s : Get) (k : Nat) (own : Bool) (args : List IOpd) : stepU cfg orc dep s ⟨some k, none, .call own n_ingotlaw11_DeciSigns args⟩ = (vals cfg s args).bind fun vs => callU orc s (some k) own n_ingotlaw11_DeciSigns vs := U_call' s k own _ args rfl
abbrev X_ingotlaw11_DeciAdds : Kx := ⟨cfg, 0, [.t 6]⟩
theorem o_ingotlaw11_DeciAdds (x0 x1 x2 : D) : evL cfg n_ingotlaw11_DeciAdds 0 [.d x0, .d x1, .d x2] [] = go X_ingotlaw11_DeciAdds [.c c_ingotlaw11_DeciAdds] ⟨[(0, .d x0), (1, .d x1), (2, .d x2)], []⟩ := evL_go (fn := i_ingotlaw11_DeciAdds) rfl rfl _ _ _ rfl rfl
@[go_sem] theorem u_ingotlaw11_DeciAdds (orc : Orc) (dep : Nat) (s : Get) (k : Nat) (own : Bool) (args : List IOpd) : stepU cfg orc dep s ⟨some k, none, .call own n_ingotlaw11_DeciAdds args⟩ = (vals cfg s args).bind fun vs => callU orc s (some k) own n_ingotlaw11_DeciAdds vs := U_call' s k own _ args rfl
abbrev X_ingotref1_Sub : Kx := ⟨cfg, 0, [.t 4, .t 5]⟩
theorem o_ingotref1_Sub (x0 x1 : D) : evL cfg n_ingotref1_Sub 0 [.d x0, .d x1] [] = go X_ingotref1_Sub [.c c_ingotref1_Sub] ⟨[(0, .d x0), (1, .d x1)], []⟩ := evL_go (fn := i_ingotref1_Sub) rfl rfl _ _ _ rfl rfl
@[go_sem] theorem u_ingotref1_Sub (orc : Orc) (dep : Nat) (s : Get) (k : Nat) (own : Bool) (args : List IOpd) : stepU cfg orc dep s ⟨some k, none, .call own n_ingotref1_Sub args⟩ = (vals cfg s args).bind fun vs => callU orc s (some k) own n_ingotref1_Sub vs := U_call' s k own _ args rfl
abbrev X_ingotref11_Compare : Kx := ⟨cfg, 0, [.t 8]⟩
theorem o_ingotref11_Compare (x0 x1 x2 x3 : D) : evL cfg n_ingotref11_Compare 0 [.d x0, .d x1, .d x2, .d x3] [] = go X_ingotref11_Compare [.c c_ingotref11_Compare] ⟨[(0, .d x0), (1, .d x1), (2, .d x2), (3, .d x3)], []⟩ := evL_go (fn := i_ingotref11_Compare) rfl rfl _ _ _ rfl rfl
@[go_sem] theorem u_ingotref11_Compare (orc : Orc) (dep : Nat) (s : Get) (k : Nat) (own : Bool) (args : List IOpd) : stepU cfg orc dep s ⟨some k, none, .call own n_ingotref11_Compare args⟩ = (vals cfg s args).bind fun vs => callU orc s (some k) own n_ingotref11_Compare vs := U_call' s k own _ args rfl
abbrev X_ingotlaw11_DeciOrder : Kx := ⟨cfg, 0, [.t 8]⟩
theorem o_ingotlaw11_DeciOrder (x0 x1 x2 x3 : D) : evL cfg n_ingotlaw11_DeciOrder 0 [.d x0, .d x1, .d x2, .d x3] [] = go X_ingotlaw11_DeciOrder [.c c_ingotlaw11_DeciOrder] ⟨[(0, .d x0), (1, .d x1), (2, .d x2), (3, .d x3)], []⟩ := evL_go (fn := i_ingotlaw11_DeciOrder) rfl rfl _ _ _ rfl rfl
@[go_sem] theorem u_ingotlaw11_DeciOrder (orc : Orc) (dep : Nat) (s : Get) (k : Nat) (own : Bool) (args : List IOpd) : stepU cfg orc dep s ⟨some k, none, .call own n_ingotlaw11_DeciOrder args⟩ = (vals cfg s args).bind fun vs => callU orc s (some k) own n_ingotlaw11_DeciOrder vs := U_call' s k own _ args rfl
abbrev X_ingotref11_Rescale : Kx := ⟨cfg, 0, [.t 6, .t 7]⟩
theorem o_ingotref11_Rescale (x0 x1 x2 : D) : evL cfg n_ingotref11_Rescale 0 [.d x0, .d x1, .d x2] [] = go X_ingotref11_Rescale [.c c_ingotref11_Rescale] ⟨[(0, .d x0), (1, .d x1), (2, .d x2)], []⟩ := evL_go (fn := i_ingotref11_Rescale) rfl rfl _ _ _ rfl rfl
@[go_sem] theorem u_ingotref11_Rescale (orc : Orc) (dep : Nat) (s : Get) (k : Nat) (own : Bool) (args : List IOpd) : stepU cfg orc dep s ⟨some k, none, .call own n_ingotref11_Rescale args⟩ = (vals cfg s args).bind fun vs => callU orc s (some k) own n_ingotref11_Rescale vs := U_call' s k own _ args rfl
abbrev X_ingotlaw11_DeciScales : Kx := ⟨cfg, 0, [.t 6]⟩
theorem o_ingotlaw11_DeciScales (x0 x1 x2 : D) : evL cfg n_ingotlaw11_DeciScales 0 [.d x0, .d x1, .d x2] [] = go X_ingotlaw11_DeciScales [.c c_ingotlaw11_DeciScales] ⟨[(0, .d x0), (1, .d x1), (2, .d x2)], []⟩ := evL_go (fn := i_ingotlaw11_DeciScales) rfl rfl _ _ _ rfl rfl
@[go_sem] theorem u_ingotlaw11_DeciScales (orc : Orc) (dep : Nat) (s : Get) (k : Nat) (own : Bool) (args : List IOpd) : stepU cfg orc dep s ⟨some k, none, .call own n_ingotlaw11_DeciScales args⟩ = (vals cfg s args).bind fun vs => callU orc s (some k) own n_ingotlaw11_DeciScales vs := U_call' s k own _ args rfl
abbrev X_ingotref11_Digits : Kx := ⟨cfg, 0, [.t 2]⟩
theorem o_ingotref11_Digits (x0 : D) : evL cfg n_ingotref11_Digits 0 [.d x0] [] = go X_ingotref11_Digits [.c c_ingotref11_Digits] ⟨[(0, .d x0)], []⟩ := evL_go (fn := i_ingotref11_Digits) rfl rfl _ _ _ rfl rfl
@[go_sem] theorem u_ingotref11_Digits (orc : Orc) (dep : Nat) (s : Get) (k : Nat) (own : Bool) (args : List IOpd) : stepU cfg orc dep s ⟨some k, none, .call own n_ingotref11_Digits args⟩ = (vals cfg s args).bind fun vs => callU orc s (some k) own n_ingotref11_Digits vs := U_call' s k own _ args rfl
abbrev X_ingotref11_digits : Kx := ⟨cfg, 0, [.t 2]⟩
theorem o_ingotref11_digits (x0 : D) : evL cfg n_ingotref11_digits 0 [.d x0] [] = go X_ingotref11_digits [.c c_ingotref11_digits] ⟨[(0, .d x0)], []⟩ := evL_go (fn := i_ingotref11_digits) rfl rfl _ _ _ rfl rfl
@[go_sem] theorem u_ingotref11_digits (orc : Orc) (dep : Nat) (s : Get) (k : Nat) (own : Bool) (args : List IOpd) : stepU cfg orc dep s ⟨some k, none, .call own n_ingotref11_digits args⟩ = (vals cfg s args).bind fun vs => callU orc s (some k) own n_ingotref11_digits vs := U_call' s k own _ args rfl
abbrev X_ingotref11_size : Kx := ⟨cfg, 0, [.t 2]⟩
theorem o_ingotref11_size (x0 : D) : evL cfg n_ingotref11_size 0 [.d x0] [] = go X_ingotref11_size [.c c_ingotref11_size] ⟨[(0, .d x0)], []⟩ := evL_go (fn := i_ingotref11_size) rfl rfl _ _ _ rfl rfl
@[go_sem] theorem u_ingotref11_size (orc : Orc) (dep : Nat) (s : Get) (k : Nat) (own : Bool) (args : List IOpd) : stepU cfg orc dep s ⟨some k, none, .call own n_ingotref11_size args⟩ = (vals cfg s args).bind fun vs => callU orc s (some k) own n_ingotref11_size vs := U_call' s k own _ args rfl
abbrev X_ingotref11_Text : Kx := ⟨cfg, 0, [.t 4]⟩
theorem o_ingotref11_Text (x0 x1 : D) : evL cfg n_ingotref11_Text 0 [.d x0, .d x1] [] = go X_ingotref11_Text [.c c_ingotref11_Text] ⟨[(0, .d x0), (1, .d x1)], []⟩ := evL_go (fn := i_ingotref11_Text) rfl rfl _ _ _ rfl rfl
@[go_sem] theorem u_ingotref11_Text (orc : Orc) (dep : Nat) (s : Get) (k : Nat) (own : Bool) (args : List IOpd) : stepU cfg orc dep s ⟨some k, none, .call own n_ingotref11_Text args⟩ = (vals cfg s args).bind fun vs => callU orc s (some k) own n_ingotref11_Text vs := U_call' s k own _ args rfl
abbrev X_ingotref1_Add : Kx := ⟨cfg, 0, [.t 4, .t 5]⟩
theorem o_ingotref1_Add (x0 x1 : D) : evL cfg n_ingotref1_Add 0 [.d x0, .d x1] [] = go X_ingotref1_Add [.c c_ingotref1_Add] ⟨[(0, .d x0), (1, .d x1)], []⟩ := evL_go (fn := i_ingotref1_Add) rfl rfl _ _ _ rfl rfl
@[go_sem] theorem u_ingotref1_Add (orc : Orc) (dep : Nat) (s : Get) (k : Nat) (own : Bool) (args : List IOpd) : stepU cfg orc dep s ⟨some k, none, .call own n_ingotref1_Add args⟩ = (vals cfg s args).bind fun vs => callU orc s (some k) own n_ingotref1_Add vs := U_call' s k own _ args rfl
abbrev X_ingotref1_size : Kx := ⟨cfg, 0, [.t 2]⟩
theorem o_ingotref1_size (x0 : D) : evL cfg n_ingotref1_size 0 [.d x0] [] = go X_ingotref1_size [.c c_ingotref1_size] ⟨[(0, .d x0)], []⟩ := evL_go (fn := i_ingotref1_size) rfl rfl _ _ _ rfl rfl
@[go_sem] theorem u_ingotref1_size (orc : Orc) (dep : Nat) (s : Get) (k : Nat) (own : Bool) (args : List IOpd) : stepU cfg orc dep s ⟨some k, none, .call own n_ingotref1_size args⟩ = (vals cfg s args).bind fun vs => callU orc s (some k) own n_ingotref1_size vs := U_call' s k own _ args rfl
abbrev X_ingotref1_Mul : Kx := ⟨cfg, 0, [.t 4, .t 5]⟩
theorem o_ingotref1_Mul (x0 x1 : D) : evL cfg n_ingotref1_Mul 0 [.d x0, .d x1] [] = go X_ingotref1_Mul [.c c_ingotref1_Mul] ⟨[(0, .d x0), (1, .d x1)], []⟩ := evL_go (fn := i_ingotref1_Mul) rfl rfl _ _ _ rfl rfl
@[go_sem] theorem u_ingotref1_Mul (orc : Orc) (dep : Nat) (s : Get) (k : Nat) (own : Bool) (args : List IOpd) : stepU cfg orc dep s ⟨some k, none, .call own n_ingotref1_Mul args⟩ = (vals cfg s args).bind fun vs => callU orc s (some k) own n_ingotref1_Mul vs := U_call' s k own _ args rfl
abbrev X_ingotref11_Parse : Kx := ⟨cfg, 0, [.t 4, .t 5]⟩
theorem o_ingotref11_Parse (x0 x1 : D) : evL cfg n_ingotref11_Parse 0 [.d x0, .d x1] [] = go X_ingotref11_Parse [.c c_ingotref11_Parse] ⟨[(0, .d x0), (1, .d x1)], []⟩ := evL_go (fn := i_ingotref11_Parse) rfl rfl _ _ _ rfl rfl
@[go_sem] theorem u_ingotref11_Parse (orc : Orc) (dep : Nat) (s : Get) (k : Nat) (own : Bool) (args : List IOpd) : stepU cfg orc dep s ⟨some k, none, .call own n_ingotref11_Parse args⟩ = (vals cfg s args).bind fun vs => callU orc s (some k) own n_ingotref11_Parse vs := U_call' s k own _ args rfl
abbrev X_ingotlaw11_scale : Kx := ⟨cfg, 0, [.t 2]⟩
theorem o_ingotlaw11_scale (x0 : D) : evL cfg n_ingotlaw11_scale 0 [.d x0] [] = go X_ingotlaw11_scale [.c c_ingotlaw11_scale] ⟨[(0, .d x0)], []⟩ := evL_go (fn := i_ingotlaw11_scale) rfl rfl _ _ _ rfl rfl
@[go_sem] theorem u_ingotlaw11_scale (orc : Orc) (dep : Nat) (s : Get) (k : Nat) (own : Bool) (args : List IOpd) : stepU cfg orc dep s ⟨some k, none, .call own n_ingotlaw11_scale args⟩ = (vals cfg s args).bind fun vs => callU orc s (some k) own n_ingotlaw11_scale vs := U_call' s k own _ args rfl
abbrev X_ingotlaw11_DeciTexts : Kx := ⟨cfg, 0, [.t 6]⟩
theorem o_ingotlaw11_DeciTexts (x0 x1 x2 : D) : evL cfg n_ingotlaw11_DeciTexts 0 [.d x0, .d x1, .d x2] [] = go X_ingotlaw11_DeciTexts [.c c_ingotlaw11_DeciTexts] ⟨[(0, .d x0), (1, .d x1), (2, .d x2)], []⟩ := evL_go (fn := i_ingotlaw11_DeciTexts) rfl rfl _ _ _ rfl rfl
@[go_sem] theorem u_ingotlaw11_DeciTexts (orc : Orc) (dep : Nat) (s : Get) (k : Nat) (own : Bool) (args : List IOpd) : stepU cfg orc dep s ⟨some k, none, .call own n_ingotlaw11_DeciTexts args⟩ = (vals cfg s args).bind fun vs => callU orc s (some k) own n_ingotlaw11_DeciTexts vs := U_call' s k own _ args rfl
abbrev X_ingotref1_PutVar : Kx := ⟨cfg, 0, [.t 4]⟩
theorem o_ingotref1_PutVar (x0 x1 : D) : evL cfg n_ingotref1_PutVar 0 [.d x0, .d x1] [] = go X_ingotref1_PutVar [.c c_ingotref1_PutVar] ⟨[(0, .d x0), (1, .d x1)], []⟩ := evL_go (fn := i_ingotref1_PutVar) rfl rfl _ _ _ rfl rfl
@[go_sem] theorem u_ingotref1_PutVar (orc : Orc) (dep : Nat) (s : Get) (k : Nat) (own : Bool) (args : List IOpd) : stepU cfg orc dep s ⟨some k, none, .call own n_ingotref1_PutVar args⟩ = (vals cfg s args).bind fun vs => callU orc s (some k) own n_ingotref1_PutVar vs := U_call' s k own _ args rfl
abbrev X_ingotref1_Zig : Kx := ⟨cfg, 0, [.t 2]⟩
theorem o_ingotref1_Zig (x0 : D) : evL cfg n_ingotref1_Zig 0 [.d x0] [] = go X_ingotref1_Zig [.c c_ingotref1_Zig] ⟨[(0, .d x0)], []⟩ := evL_go (fn := i_ingotref1_Zig) rfl rfl _ _ _ rfl rfl
@[go_sem] theorem u_ingotref1_Zig (orc : Orc) (dep : Nat) (s : Get) (k : Nat) (own : Bool) (args : List IOpd) : stepU cfg orc dep s ⟨some k, none, .call own n_ingotref1_Zig args⟩ = (vals cfg s args).bind fun vs => callU orc s (some k) own n_ingotref1_Zig vs := U_call' s k own _ args rfl
abbrev X_ingotref11_Encode : Kx := ⟨cfg, 0, [.t 2]⟩
theorem o_ingotref11_Encode (x0 : D) : evL cfg n_ingotref11_Encode 0 [.d x0] [] = go X_ingotref11_Encode [.c c_ingotref11_Encode] ⟨[(0, .d x0)], []⟩ := evL_go (fn := i_ingotref11_Encode) rfl rfl _ _ _ rfl rfl
@[go_sem] theorem u_ingotref11_Encode (orc : Orc) (dep : Nat) (s : Get) (k : Nat) (own : Bool) (args : List IOpd) : stepU cfg orc dep s ⟨some k, none, .call own n_ingotref11_Encode args⟩ = (vals cfg s args).bind fun vs => callU orc s (some k) own n_ingotref11_Encode vs := U_call' s k own _ args rfl
abbrev X_ingotlaw8_Same : Kx := ⟨cfg, 0, [.t 4]⟩
theorem o_ingotlaw8_Same (x0 x1 : D) : evL cfg n_ingotlaw8_Same 0 [.d x0, .d x1] [] = go X_ingotlaw8_Same [.c c_ingotlaw8_Same] ⟨[(0, .d x0), (1, .d x1)], []⟩ := evL_go (fn := i_ingotlaw8_Same) rfl rfl _ _ _ rfl rfl
@[go_sem] theorem u_ingotlaw8_Same (orc : Orc) (dep : Nat) (s : Get) (k : Nat) (own : Bool) (args : List IOpd) : stepU cfg orc dep s ⟨some k, none, .call own n_ingotlaw8_Same args⟩ = (vals cfg s args).bind fun vs => callU orc s (some k) own n_ingotlaw8_Same vs := U_call' s k own _ args rfl
abbrev X_ingotref1_Zag : Kx := ⟨cfg, 0, [.t 2]⟩
theorem o_ingotref1_Zag (x0 : D) : evL cfg n_ingotref1_Zag 0 [.d x0] [] = go X_ingotref1_Zag [.c c_ingotref1_Zag] ⟨[(0, .d x0)], []⟩ := evL_go (fn := i_ingotref1_Zag) rfl rfl _ _ _ rfl rfl
@[go_sem] theorem u_ingotref1_Zag (orc : Orc) (dep : Nat) (s : Get) (k : Nat) (own : Bool) (args : List IOpd) : stepU cfg orc dep s ⟨some k, none, .call own n_ingotref1_Zag args⟩ = (vals cfg s args).bind fun vs => callU orc s (some k) own n_ingotref1_Zag vs := U_call' s k own _ args rfl
abbrev X_ingotref1_Var : Kx := ⟨cfg, 0, [.t 4, .t 5, .t 6]⟩
theorem o_ingotref1_Var (x0 x1 : D) : evL cfg n_ingotref1_Var 0 [.d x0, .d x1] [] = go X_ingotref1_Var [.c c_ingotref1_Var] ⟨[(0, .d x0), (1, .d x1)], []⟩ := evL_go (fn := i_ingotref1_Var) rfl rfl _ _ _ rfl rfl
@[go_sem] theorem u_ingotref1_Var (orc : Orc) (dep : Nat) (s : Get) (k : Nat) (own : Bool) (args : List IOpd) : stepU cfg orc dep s ⟨some k, none, .call own n_ingotref1_Var args⟩ = (vals cfg s args).bind fun vs => callU orc s (some k) own n_ingotref1_Var vs := U_call' s k own _ args rfl
abbrev X_ingotref11_Decode : Kx := ⟨cfg, 0, [.t 4, .t 5]⟩
theorem o_ingotref11_Decode (x0 x1 : D) : evL cfg n_ingotref11_Decode 0 [.d x0, .d x1] [] = go X_ingotref11_Decode [.c c_ingotref11_Decode] ⟨[(0, .d x0), (1, .d x1)], []⟩ := evL_go (fn := i_ingotref11_Decode) rfl rfl _ _ _ rfl rfl
@[go_sem] theorem u_ingotref11_Decode (orc : Orc) (dep : Nat) (s : Get) (k : Nat) (own : Bool) (args : List IOpd) : stepU cfg orc dep s ⟨some k, none, .call own n_ingotref11_Decode args⟩ = (vals cfg s args).bind fun vs => callU orc s (some k) own n_ingotref11_Decode vs := U_call' s k own _ args rfl
abbrev X_deci_Digits : Kx := ⟨cfg, 0, [.t 2]⟩
theorem o_deci_Digits (x0 : D) : evL cfg n_deci_Digits 0 [.d x0] [] = go X_deci_Digits [.c c_deci_Digits] ⟨[(0, .d x0)], []⟩ := evL_go (fn := i_deci_Digits) rfl rfl _ _ _ rfl rfl
@[go_sem] theorem u_deci_Digits (orc : Orc) (dep : Nat) (s : Get) (k : Nat) (own : Bool) (args : List IOpd) : stepU cfg orc dep s ⟨some k, none, .call own n_deci_Digits args⟩ = (vals cfg s args).bind fun vs => callU orc s (some k) own n_deci_Digits vs := U_call' s k own _ args rfl
abbrev X_deci_Compare : Kx := ⟨cfg, 0, [.t 8]⟩
theorem o_deci_Compare (x0 x1 x2 x3 : D) : evL cfg n_deci_Compare 0 [.d x0, .d x1, .d x2, .d x3] [] = go X_deci_Compare [.c c_deci_Compare] ⟨[(0, .d x0), (1, .d x1), (2, .d x2), (3, .d x3)], []⟩ := evL_go (fn := i_deci_Compare) rfl rfl _ _ _ rfl rfl
@[go_sem] theorem u_deci_Compare (orc : Orc) (dep : Nat) (s : Get) (k : Nat) (own : Bool) (args : List IOpd) : stepU cfg orc dep s ⟨some k, none, .call own n_deci_Compare args⟩ = (vals cfg s args).bind fun vs => callU orc s (some k) own n_deci_Compare vs := U_call' s k own _ args rfl
abbrev X_deci_size : Kx := ⟨cfg, 0, [.t 2]⟩
theorem o_deci_size (x0 : D) : evL cfg n_deci_size 0 [.d x0] [] = go X_deci_size [.c c_deci_size] ⟨[(0, .d x0)], []⟩ := evL_go (fn := i_deci_size) rfl rfl _ _ _ rfl rfl
@[go_sem] theorem u_deci_size (orc : Orc) (dep : Nat) (s : Get) (k : Nat) (own : Bool) (args : List IOpd) : stepU cfg orc dep s ⟨some k, none, .call own n_deci_size args⟩ = (vals cfg s args).bind fun vs => callU orc s (some k) own n_deci_size vs := U_call' s k own _ args rfl
abbrev X_deci_Text : Kx := ⟨cfg, 0, [.t 4]⟩
theorem o_deci_Text (x0 x1 : D) : evL cfg n_deci_Text 0 [.d x0, .d x1] [] = go X_deci_Text [.c c_deci_Text] ⟨[(0, .d x0), (1, .d x1)], []⟩ := evL_go (fn := i_deci_Text) rfl rfl _ _ _ rfl rfl
@[go_sem] theorem u_deci_Text (orc : Orc) (dep : Nat) (s : Get) (k : Nat) (own : Bool) (args : List IOpd) : stepU cfg orc dep s ⟨some k, none, .call own n_deci_Text args⟩ = (vals cfg s args).bind fun vs => callU orc s (some k) own n_deci_Text vs := U_call' s k own _ args rfl
abbrev X_deci_power : Kx := ⟨cfg, 0, [.t 2]⟩
theorem o_deci_power (x0 : D) : evL cfg n_deci_power 0 [.d x0] [] = go X_deci_power [.c c_deci_power] ⟨[(0, .d x0)], []⟩ := evL_go (fn := i_deci_power) rfl rfl _ _ _ rfl rfl
@[go_sem] theorem u_deci_power (orc : Orc) (dep : Nat) (s : Get) (k : Nat) (own : Bool) (args : List IOpd) : stepU cfg orc dep s ⟨some k, none, .call own n_deci_power args⟩ = (vals cfg s args).bind fun vs => callU orc s (some k) own n_deci_power vs := U_call' s k own _ args rfl
abbrev X_deci_Rescale : Kx := ⟨cfg, 0, [.t 6, .t 7]⟩
theorem o_deci_Rescale (x0 x1 x2 : D) : evL cfg n_deci_Rescale 0 [.d x0, .d x1, .d x2] [] = go X_deci_Rescale [.c c_deci_Rescale] ⟨[(0, .d x0), (1, .d x1), (2, .d x2)], []⟩ := evL_go (fn := i_deci_Rescale) rfl rfl _ _ _ rfl rfl
@[go_sem] theorem u_deci_Rescale (orc : Orc) (dep : Nat) (s : Get) (k : Nat) (own : Bool) (args : List IOpd) : stepU cfg orc dep s ⟨some k, none, .call own n_deci_Rescale args⟩ = (vals cfg s args).bind fun vs => callU orc s (some k) own n_deci_Rescale vs := U_call' s k own _ args rfl
abbrev X_nums_Zag : Kx := ⟨cfg, 0, [.t 2]⟩
theorem o_nums_Zag (x0 : D) : evL cfg n_nums_Zag 0 [.d x0] [] = go X_nums_Zag [.c c_nums_Zag] ⟨[(0, .d x0)], []⟩ := evL_go (fn := i_nums_Zag) rfl rfl _ _ _ rfl rfl
@[go_sem] theorem u_nums_Zag (orc : Orc) (dep : Nat) (s : Get) (k : Nat) (own : Bool) (args : List IOpd) : stepU cfg orc dep s ⟨some k, none, .call own n_nums_Zag args⟩ = (vals cfg s args).bind fun vs => callU orc s (some k) own n_nums_Zag vs := U_call' s k own _ args rfl
abbrev X_nums_Var : Kx := ⟨cfg, 0, [.t 4, .t 5, .t 6]⟩
theorem o_nums_Var (x0 x1 : D) : evL cfg n_nums_Var 0 [.d x0, .d x1] [] = go X_nums_Var [.c c_nums_Var] ⟨[(0, .d x0), (1, .d x1)], []⟩ := evL_go (fn := i_nums_Var) rfl rfl _ _ _ rfl rfl
@[go_sem] theorem u_nums_Var (orc : Orc) (dep : Nat) (s : Get) (k : Nat) (own : Bool) (args : List IOpd) : stepU cfg orc dep s ⟨some k, none, .call own n_nums_Var args⟩ = (vals cfg s args).bind fun vs => callU orc s (some k) own n_nums_Var vs := U_call' s k own _ args rfl
abbrev X_deci_Decode : Kx := ⟨cfg, 0, [.t 4, .t 5]⟩
theorem o_deci_Decode (x0 x1 : D) : evL cfg n_deci_Decode 0 [.d x0, .d x1] [] = go X_deci_Decode [.c c_deci_Decode] ⟨[(0, .d x0), (1, .d x1)], []⟩ := evL_go (fn := i_deci_Decode) rfl rfl _ _ _ rfl rfl
@[go_sem] theorem u_deci_Decode (orc : Orc) (dep : Nat) (s : Get) (k : Nat) (own : Bool) (args : List IOpd) : stepU cfg orc dep s ⟨some k, none, .call own n_deci_Decode args⟩ = (vals cfg s args).bind fun vs => callU orc s (some k) own n_deci_Decode vs := U_call' s k own _ args rfl
abbrev X_slices_Clone_Sbyte_byte : Kx := ⟨cfg, 0, [.t 2]⟩
theorem o_slices_Clone_Sbyte_byte (x0 : D) : evL cfg n_slices_Clone_Sbyte_byte 0 [.d x0] [] = go X_slices_Clone_Sbyte_byte [.c c_slices_Clone_Sbyte_byte] ⟨[(0, .d x0)], []⟩ := evL_go (fn := i_slices_Clone_Sbyte_byte) rfl rfl _ _ _ rfl rfl
@[go_sem] theorem u_slices_Clone_Sbyte_byte (orc : Orc) (dep : Nat) (s : Get) (k : Nat) (own : Bool) (args : List IOpd) : stepU cfg orc dep s ⟨some k, none, .call own n_slices_Clone_Sbyte_byte args⟩ = (vals cfg s args).bind fun vs => callU orc s (some k) own n_slices_Clone_Sbyte_byte vs := U_call' s k own _ args rfl
abbrev X_nums_PutVar : Kx := ⟨cfg, 0, [.t 4]⟩
theorem o_nums_PutVar (x0 x1 : D) : evL cfg n_nums_PutVar 0 [.d x0, .d x1] [] = go X_nums_PutVar [.c c_nums_PutVar] ⟨[(0, .d x0), (1, .d x1)], []⟩ := evL_go (fn := i_nums_PutVar) rfl rfl _ _ _ rfl rfl
@[go_sem] theorem u_nums_PutVar (orc : Orc) (dep : Nat) (s : Get) (k : Nat) (own : Bool) (args : List IOpd) : stepU cfg orc dep s ⟨some k, none, .call own n_nums_PutVar args⟩ = (vals cfg s args).bind fun vs => callU orc s (some k) own n_nums_PutVar vs := U_call' s k own _ args rfl
abbrev X_nums_Zig : Kx := ⟨cfg, 0, [.t 2]⟩
theorem o_nums_Zig (x0 : D) : evL cfg n_nums_Zig 0 [.d x0] [] = go X_nums_Zig [.c c_nums_Zig] ⟨[(0, .d x0)], []⟩ := evL_go (fn := i_nums_Zig) rfl rfl _ _ _ rfl rfl
@[go_sem] theorem u_nums_Zig (orc : Orc) (dep : Nat) (s : Get) (k : Nat) (own : Bool) (args : List IOpd) : stepU cfg orc dep s ⟨some k, none, .call own n_nums_Zig args⟩ = (vals cfg s args).bind fun vs => callU orc s (some k) own n_nums_Zig vs := U_call' s k own _ args rfl
abbrev X_deci_Encode : Kx := ⟨cfg, 0, [.t 2]⟩
theorem o_deci_Encode (x0 : D) : evL cfg n_deci_Encode 0 [.d x0] [] = go X_deci_Encode [.c c_deci_Encode] ⟨[(0, .d x0)], []⟩ := evL_go (fn := i_deci_Encode) rfl rfl _ _ _ rfl rfl
@[go_sem] theorem u_deci_Encode (orc : Orc) (dep : Nat) (s : Get) (k : Nat) (own : Bool) (args : List IOpd) : stepU cfg orc dep s ⟨some k, none, .call own n_deci_Encode args⟩ = (vals cfg s args).bind fun vs => callU orc s (some k) own n_deci_Encode vs := U_call' s k own _ args rfl
abbrev X_nums_Add : Kx := ⟨cfg, 0, [.t 4, .t 5]⟩
theorem o_nums_Add (x0 x1 : D) : evL cfg n_nums_Add 0 [.d x0, .d x1] [] = go X_nums_Add [.c c_nums_Add] ⟨[(0, .d x0), (1, .d x1)], []⟩ := evL_go (fn := i_nums_Add) rfl rfl _ _ _ rfl rfl
@[go_sem] theorem u_nums_Add (orc : Orc) (dep : Nat) (s : Get) (k : Nat) (own : Bool) (args : List IOpd) : stepU cfg orc dep s ⟨some k, none, .call own n_nums_Add args⟩ = (vals cfg s args).bind fun vs => callU orc s (some k) own n_nums_Add vs := U_call' s k own _ args rfl
abbrev X_nums_size : Kx := ⟨cfg, 0, [.t 2]⟩
theorem o_nums_size (x0 : D) : evL cfg n_nums_size 0 [.d x0] [] = go X_nums_size [.c c_nums_size] ⟨[(0, .d x0)], []⟩ := evL_go (fn := i_nums_size) rfl rfl _ _ _ rfl rfl
@[go_sem] theorem u_nums_size (orc : Orc) (dep : Nat) (s : Get) (k : Nat) (own : Bool) (args : List IOpd) : stepU cfg orc dep s ⟨some k, none, .call own n_nums_size args⟩ = (vals cfg s args).bind fun vs => callU orc s (some k) own n_nums_size vs := U_call' s k own _ args rfl
abbrev X_nums_Mul : Kx := ⟨cfg, 0, [.t 4, .t 5]⟩
theorem o_nums_Mul (x0 x1 : D) : evL cfg n_nums_Mul 0 [.d x0, .d x1] [] = go X_nums_Mul [.c c_nums_Mul] ⟨[(0, .d x0), (1, .d x1)], []⟩ := evL_go (fn := i_nums_Mul) rfl rfl _ _ _ rfl rfl
@[go_sem] theorem u_nums_Mul (orc : Orc) (dep : Nat) (s : Get) (k : Nat) (own : Bool) (args : List IOpd) : stepU cfg orc dep s ⟨some k, none, .call own n_nums_Mul args⟩ = (vals cfg s args).bind fun vs => callU orc s (some k) own n_nums_Mul vs := U_call' s k own _ args rfl
abbrev X_deci_plain : Kx := ⟨cfg, 0, [.t 2]⟩
theorem o_deci_plain (x0 : D) : evL cfg n_deci_plain 0 [.d x0] [] = go X_deci_plain [.c c_deci_plain] ⟨[(0, .d x0)], []⟩ := evL_go (fn := i_deci_plain) rfl rfl _ _ _ rfl rfl
@[go_sem] theorem u_deci_plain (orc : Orc) (dep : Nat) (s : Get) (k : Nat) (own : Bool) (args : List IOpd) : stepU cfg orc dep s ⟨some k, none, .call own n_deci_plain args⟩ = (vals cfg s args).bind fun vs => callU orc s (some k) own n_deci_plain vs := U_call' s k own _ args rfl
abbrev X_stringslite_Cut : Kx := ⟨cfg, 0, [.t 4, .t 5, .t 6]⟩
theorem o_stringslite_Cut (x0 x1 : D) : evL cfg n_stringslite_Cut 0 [.d x0, .d x1] [] = go X_stringslite_Cut [.c c_stringslite_Cut] ⟨[(0, .d x0), (1, .d x1)], []⟩ := evL_go (fn := i_stringslite_Cut) rfl rfl _ _ _ rfl rfl
@[go_sem] theorem u_stringslite_Cut (orc : Orc) (dep : Nat) (s : Get) (k : Nat) (own : Bool) (args : List IOpd) : stepU cfg orc dep s ⟨some k, none, .call own n_stringslite_Cut args⟩ = (vals cfg s args).bind fun vs => callU orc s (some k) own n_stringslite_Cut vs := U_call' s k own _ args rfl
abbrev X_strings_Cut : Kx := ⟨cfg, 0, [.t 4, .t 5, .t 6]⟩
theorem o_strings_Cut (x0 x1 : D) : evL cfg n_strings_Cut 0 [.d x0, .d x1] [] = go X_strings_Cut [.c c_strings_Cut] ⟨[(0, .d x0), (1, .d x1)], []⟩ := evL_go (fn := i_strings_Cut) rfl rfl _ _ _ rfl rfl
@[go_sem] theorem u_strings_Cut (orc : Orc) (dep : Nat) (s : Get) (k : Nat) (own : Bool) (args : List IOpd) : stepU cfg orc dep s ⟨some k, none, .call own n_strings_Cut args⟩ = (vals cfg s args).bind fun vs => callU orc s (some k) own n_strings_Cut vs := U_call' s k own _ args rfl
abbrev X_stringslite_HasPrefix : Kx := ⟨cfg, 0, [.t 4]⟩
theorem o_stringslite_HasPrefix (x0 x1 : D) : evL cfg n_stringslite_HasPrefix 0 [.d x0, .d x1] [] = go X_stringslite_HasPrefix [.c c_stringslite_HasPrefix] ⟨[(0, .d x0), (1, .d x1)], []⟩ := evL_go (fn := i_stringslite_HasPrefix) rfl rfl _ _ _ rfl rfl
@[go_sem] theorem u_stringslite_HasPrefix (orc : Orc) (dep : Nat) (s : Get) (k : Nat) (own : Bool) (args : List IOpd) : stepU cfg orc dep s ⟨some k, none, .call own n_stringslite_HasPrefix args⟩ = (vals cfg s args).bind fun vs => callU orc s (some k) own n_stringslite_HasPrefix vs := U_call' s k own _ args rfl
abbrev X_stringslite_CutPrefix : Kx := ⟨cfg, 0, [.t 4, .t 5]⟩
theorem o_stringslite_CutPrefix (x0 x1 : D) : evL cfg n_stringslite_CutPrefix 0 [.d x0, .d x1] [] = go X_stringslite_CutPrefix [.c c_stringslite_CutPrefix] ⟨[(0, .d x0), (1, .d x1)], []⟩ := evL_go (fn := i_stringslite_CutPrefix) rfl rfl _ _ _ rfl rfl
@[go_sem] theorem u_stringslite_CutPrefix (orc : Orc) (dep : Nat) (s : Get) (k : Nat) (own : Bool) (args : List IOpd) : stepU cfg orc dep s ⟨some k, none, .call own n_stringslite_CutPrefix args⟩ = (vals cfg s args).bind fun vs => callU orc s (some k) own n_stringslite_CutPrefix vs := U_call' s k own _ args rfl
abbrev X_strings_CutPrefix : Kx := ⟨cfg, 0, [.t 4, .t 5]⟩
theorem o_strings_CutPrefix (x0 x1 : D) : evL cfg n_strings_CutPrefix 0 [.d x0, .d x1] [] = go X_strings_CutPrefix [.c c_strings_CutPrefix] ⟨[(0, .d x0), (1, .d x1)], []⟩ := evL_go (fn := i_strings_CutPrefix) rfl rfl _ _ _ rfl rfl
@[go_sem] theorem u_strings_CutPrefix (orc : Orc) (dep : Nat) (s : Get) (k : Nat) (own : Bool) (args : List IOpd) : stepU cfg orc dep s ⟨some k, none, .call own n_strings_CutPrefix args⟩ = (vals cfg s args).bind fun vs => callU orc s (some k) own n_strings_CutPrefix vs := U_call' s k own _ args rfl
abbrev X_deci_Parse : Kx := ⟨cfg, 0, [.t 4, .t 5]⟩
theorem o_deci_Parse (x0 x1 : D) : evL cfg n_deci_Parse 0 [.d x0, .d x1] [] = go X_deci_Parse [.c c_deci_Parse] ⟨[(0, .d x0), (1, .d x1)], []⟩ := evL_go (fn := i_deci_Parse) rfl rfl _ _ _ rfl rfl
@[go_sem] theorem u_deci_Parse (orc : Orc) (dep : Nat) (s : Get) (k : Nat) (own : Bool) (args : List IOpd) : stepU cfg orc dep s ⟨some k, none, .call own n_deci_Parse args⟩ = (vals cfg s args).bind fun vs => callU orc s (some k) own n_deci_Parse vs := U_call' s k own _ args rfl
abbrev X_ingotlaw11_known : Kx := ⟨cfg, 0, [.t 0]⟩
theorem o_ingotlaw11_known : evL cfg n_ingotlaw11_known 0 [] [] = go X_ingotlaw11_known [.c c_ingotlaw11_known] ⟨[], []⟩ := evL_go (fn := i_ingotlaw11_known) rfl rfl _ _ _ rfl rfl
@[go_sem] theorem u_ingotlaw11_known (orc : Orc) (dep : Nat) (s : Get) (k : Nat) (own : Bool) (args : List IOpd) : stepU cfg orc dep s ⟨some k, none, .call own n_ingotlaw11_known args⟩ = (vals cfg s args).bind fun vs => callU orc s (some k) own n_ingotlaw11_known vs := U_call' s k own _ args rfl
abbrev X_ingotlaw11_DeciStreams : Kx := ⟨cfg, 0, [.t 6]⟩
theorem o_ingotlaw11_DeciStreams (x0 x1 x2 : D) : evL cfg n_ingotlaw11_DeciStreams 0 [.d x0, .d x1, .d x2] [] = go X_ingotlaw11_DeciStreams [.c c_ingotlaw11_DeciStreams] ⟨[(0, .d x0), (1, .d x1), (2, .d x2)], []⟩ := evL_go (fn := i_ingotlaw11_DeciStreams) rfl rfl _ _ _ rfl rfl
@[go_sem] theorem u_ingotlaw11_DeciStreams (orc : Orc) (dep : Nat) (s : Get) (k : Nat) (own : Bool) (args : List IOpd) : stepU cfg orc dep s ⟨some k, none, .call own n_ingotlaw11_DeciStreams args⟩ = (vals cfg s args).bind fun vs => callU orc s (some k) own n_ingotlaw11_DeciStreams vs := U_call' s k own _ args rfl
@[go_sem] theorem u_strconv_FormatUint (orc : Orc) (dep : Nat) (s : Get) (k : Nat) (own : Bool) (args : List IOpd) : stepU cfg orc dep s ⟨some k, none, .call own n_strconv_FormatUint args⟩ = (vals cfg s args).bind fun vs => callU orc s (some k) own n_strconv_FormatUint vs := U_call' s k own _ args rfl
@[go_sem] theorem u_bits_Mul64 (orc : Orc) (dep : Nat) (s : Get) (k : Nat) (own : Bool) (args : List IOpd) : stepU cfg orc dep s ⟨some k, none, .call own n_bits_Mul64 args⟩ = (vals cfg s args).bind fun vs => callU orc s (some k) own n_bits_Mul64 vs := U_call' s k own _ args rfl
@[go_sem] theorem u_strings_Repeat (orc : Orc) (dep : Nat) (s : Get) (k : Nat) (own : Bool) (args : List IOpd) : stepU cfg orc dep s ⟨some k, none, .call own n_strings_Repeat args⟩ = (vals cfg s args).bind fun vs => callU orc s (some k) own n_strings_Repeat vs := U_call' s k own _ args rfl
@[go_sem] theorem u_strings_Trim (orc : Orc) (dep : Nat) (s : Get) (k : Nat) (own : Bool) (args : List IOpd) : stepU cfg orc dep s ⟨some k, none, .call own n_strings_Trim args⟩ = (vals cfg s args).bind fun vs => callU orc s (some k) own n_strings_Trim vs := U_call' s k own _ args rfl
@[go_sem] theorem u_stringslite_Index (orc : Orc) (dep : Nat) (s : Get) (k : Nat) (own : Bool) (args : List IOpd) : stepU cfg orc dep s ⟨some k, none, .call own n_stringslite_Index args⟩ = (vals cfg s args).bind fun vs => callU orc s (some k) own n_stringslite_Index vs := U_call' s k own _ args rfl
@[go_sem] theorem u_slices_Clip_Sint64_int64 (orc : Orc) (dep : Nat) (s : Get) (k : Nat) (own : Bool) (x : IOpd) : stepU cfg orc dep s ⟨some k, none, .call own n_slices_Clip_Sint64_int64 [x]⟩ = (val cfg s x).bind fun v => evClip (some k) x v := U_clip s k own _ x rfl
@[go_sem] theorem u_slices_Clip_Sbyte_byte (orc : Orc) (dep : Nat) (s : Get) (k : Nat) (own : Bool) (x : IOpd) : stepU cfg orc dep s ⟨some k, none, .call own n_slices_Clip_Sbyte_byte [x]⟩ = (val cfg s x).bind fun v => evClip (some k) x v := U_clip s k own _ x rfl

end Go.Proofs.YteckebocflnkdaaDoor
