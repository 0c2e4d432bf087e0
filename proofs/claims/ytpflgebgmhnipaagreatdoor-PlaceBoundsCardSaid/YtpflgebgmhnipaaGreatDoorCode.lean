/- The evaluator's code of functions that the rows reach, printed by program and checked against the program; of the others what their code is reckoned by. -/
import Derived.Test.YtpflgebgmhnipaaGreatDoorL14
import Derived.Test.YtpflgebgmhnipaaGreatDoorChecked
namespace Go.Proofs.YtpflgebgmhnipaaGreatDoor
open Go.Ev Go
variable {X : Kx} {K : List Kf} {s : St}

def n_ingotlaw22_PlaceBytes : FuncId := 3
def n_ingotlaw22_PlaceBack : FuncId := 4
def n_ingotlaw22_PlaceOrder : FuncId := 5
def n_ingotlaw22_PlaceBounds : FuncId := 6
def n_ingotlaw22_known : FuncId := 8
def n_sfoot_Decode : FuncId := 9
def n_ingotref22_Decode : FuncId := 10
def n_ingotlaw22_same : FuncId := 11
def n_ingotlaw22_Of : FuncId := 12
def n_sfoot_Encode : FuncId := 13
def n_ingotref22_Encode : FuncId := 14
def n_pb_Parse : FuncId := 25
def n_pb_Uint : FuncId := 26
def n_slices_Clip_Ssfoot_Place_sfoot_Place : FuncId := 27
def n_slices_Clip_Scolw_Encoding_colw_Encoding : FuncId := 28
def n_ingotref3_Parse : FuncId := 29
def n_ingotref3_Uint : FuncId := 30
def n_sfoot_in : FuncId := 31
def n_pb_PutBytes : FuncId := 32
def n_sfoot_put : FuncId := 33
def n_ingotref22_in : FuncId := 34
def n_ingotref3_PutBytes : FuncId := 35
def n_ingotref3_PutUint : FuncId := 36
def n_pb_field : FuncId := 53
def n_slices_Clip_Spb_Field_pb_Field : FuncId := 54
def n_pb_last : FuncId := 55
def n_ingotref3_field : FuncId := 56
def n_slices_ContainsFunc_Sint_int : FuncId := 57
def n_sfoot_in_1 : FuncId := 58
def n_pb_head : FuncId := 59
def n_slices_Clip_Sbyte_byte : FuncId := 60
def n_nums_PutVar : FuncId := 61
def n_pb_PutUint : FuncId := 62
def n_ingotref3_may : FuncId := 63
def n_ingotref1_PutVar : FuncId := 64
def n_slices_Clone_Sbyte_byte : FuncId := 70
def n_nums_Var : FuncId := 88
def n_slices_Backward_Spb_Field_pb_Field : FuncId := 89
def n_ingotref1_Var : FuncId := 90
def n_slices_IndexFunc_Sint_int : FuncId := 91
def n_ingotref1_Zag : FuncId := 106
def n_ingotref1_Zig : FuncId := 121
def n_slices_Backward_Spb_Field_pb_Field_1 : FuncId := 124
def n_types_names : FuncId := 125
def n_nums_Zig : FuncId := 138
def n_nums_Zag : FuncId := 142
/-! ingot/ingotref1.Zig -/
@[go_sem] def r_ingotref1_Zig_0_o : Ops := [
oo 2 (.asg (.c (.int .u64 0)))]
def r_ingotref1_Zig_0 := rg r_ingotref1_Zig_0_o [0]
@[go_sem] theorem r_ingotref1_Zig_0_u : Gr X K s r_ingotref1_Zig_0 r_ingotref1_Zig_0_o [0] := go_region _ _
@[go_sem] def r_ingotref1_Zig_1_o : Ops := [
oo 3 (.mv (.t 0)), oo 4 (.bin .lss (.t 3) (ci 0))]
def r_ingotref1_Zig_1 := rg r_ingotref1_Zig_1_o [0, 4]
@[go_sem] theorem r_ingotref1_Zig_1_u : Gr X K s r_ingotref1_Zig_1 r_ingotref1_Zig_1_o [0, 4] := go_region _ _
@[go_sem] def r_ingotref1_Zig_2_o : Ops := [
oo 5 (.mv (.t 0)), oo 6 (.bin .add (.t 5) (ci 1)), oo 7 (.bin .sub (ci 0) (.t 6)), oo 8 (.cvInt .u64 (.t 7)), oo 9 (.bin .shl (.t 8) (.c (.int .u64 1))), oo 10 (.bin .or (.t 9) (.c (.int .u64 1))), oo 2 (.asg (.t 10))]
def r_ingotref1_Zig_2 := rg r_ingotref1_Zig_2_o [2]
@[go_sem] theorem r_ingotref1_Zig_2_u : Gr X K s r_ingotref1_Zig_2 r_ingotref1_Zig_2_o [2] := go_region _ _
@[go_sem] def r_ingotref1_Zig_3_o : Ops := [
oo 11 (.mv (.t 0)), oo 12 (.cvInt .u64 (.t 11)), oo 13 (.bin .shl (.t 12) (.c (.int .u64 1))), oo 2 (.asg (.t 13))]
def r_ingotref1_Zig_3 := rg r_ingotref1_Zig_3_o [2]
@[go_sem] theorem r_ingotref1_Zig_3_u : Gr X K s r_ingotref1_Zig_3 r_ingotref1_Zig_3_o [2] := go_region _ _
def c_ingotref1_Zig : ICode := (.seq r_ingotref1_Zig_0 (.seq r_ingotref1_Zig_1 (.cond (.t 4) (.seq r_ingotref1_Zig_2 .ret) (.seq r_ingotref1_Zig_3 .ret))))
def i_ingotref1_Zig : IFunc := ⟨1, [.t 2], c_ingotref1_Zig⟩
def a_ingotref1_Zig : Advice := ⟨[], [(3, [2]), (2, [2]), (1, [0, 4]), (0, [0])], [], [], [], []⟩
/-! ingot/ingotref1.Zag -/
@[go_sem] def r_ingotref1_Zag_0_o : Ops := [
oo 2 (.asg (ci 0))]
def r_ingotref1_Zag_0 := rg r_ingotref1_Zag_0_o [0]
@[go_sem] theorem r_ingotref1_Zag_0_u : Gr X K s r_ingotref1_Zag_0 r_ingotref1_Zag_0_o [0] := go_region _ _
@[go_sem] def r_ingotref1_Zag_1_o : Ops := [
oo 4 (.mv (.t 0)), oo 5 (.bin .shr (.t 4) (.c (.int .u64 1))), oo 6 (.cvInt .i64 (.t 5)), oo 3 (.asg (.t 6))]
def r_ingotref1_Zag_1 := rg r_ingotref1_Zag_1_o [0, 3]
@[go_sem] theorem r_ingotref1_Zag_1_u : Gr X K s r_ingotref1_Zag_1 r_ingotref1_Zag_1_o [0, 3] := go_region _ _
@[go_sem] def r_ingotref1_Zag_2_o : Ops := [
oo 7 (.mv (.t 0)), oo 8 (.bin .and (.t 7) (.c (.int .u64 1))), oo 9 (.bin .eql (.t 8) (.c (.int .u64 1)))]
def r_ingotref1_Zag_2 := rg r_ingotref1_Zag_2_o [3, 9]
@[go_sem] theorem r_ingotref1_Zag_2_u : Gr X K s r_ingotref1_Zag_2 r_ingotref1_Zag_2_o [3, 9] := go_region _ _
@[go_sem] def r_ingotref1_Zag_3_o : Ops := [
oo 10 (.mv (.t 3)), oo 11 (.bin .sub (ci 0) (.t 10)), oo 12 (.bin .sub (.t 11) (ci 1)), oo 2 (.asg (.t 12))]
def r_ingotref1_Zag_3 := rg r_ingotref1_Zag_3_o [2]
@[go_sem] theorem r_ingotref1_Zag_3_u : Gr X K s r_ingotref1_Zag_3 r_ingotref1_Zag_3_o [2] := go_region _ _
@[go_sem] def r_ingotref1_Zag_4_o : Ops := [
oo 13 (.mv (.t 3)), oo 2 (.asg (.t 13))]
def r_ingotref1_Zag_4 := rg r_ingotref1_Zag_4_o [2]
@[go_sem] theorem r_ingotref1_Zag_4_u : Gr X K s r_ingotref1_Zag_4 r_ingotref1_Zag_4_o [2] := go_region _ _
def c_ingotref1_Zag : ICode := (.seq r_ingotref1_Zag_0 (.seq r_ingotref1_Zag_1 (.seq r_ingotref1_Zag_2 (.cond (.t 9) (.seq r_ingotref1_Zag_3 .ret) (.seq r_ingotref1_Zag_4 .ret)))))
def i_ingotref1_Zag : IFunc := ⟨1, [.t 2], c_ingotref1_Zag⟩
def a_ingotref1_Zag : Advice := ⟨[], [(4, [2]), (3, [2]), (2, [3, 9]), (1, [0, 3]), (0, [0])], [], [], [], []⟩
/-! ingot/ingotlaw22.PlaceBounds -/
@[go_sem] def r_ingotlaw22_PlaceBounds_0_o : Ops := [
oo 6 (.asg (.c (.bool false)))]
def r_ingotlaw22_PlaceBounds_0 := rg r_ingotlaw22_PlaceBounds_0_o [0, 1, 2]
@[go_sem] theorem r_ingotlaw22_PlaceBounds_0_u : Gr X K s r_ingotlaw22_PlaceBounds_0 r_ingotlaw22_PlaceBounds_0_o [0, 1, 2] := go_region _ _
@[go_sem] def r_ingotlaw22_PlaceBounds_1_o : Ops := [
oo 13 (.call false n_ingotlaw22_known []), oo 14 (.un .not (.t 13))]
def r_ingotlaw22_PlaceBounds_1 := rg r_ingotlaw22_PlaceBounds_1_o [0, 1, 2, 14]
@[go_sem] theorem r_ingotlaw22_PlaceBounds_1_u : Gr X K s r_ingotlaw22_PlaceBounds_1 r_ingotlaw22_PlaceBounds_1_o [0, 1, 2, 14] := go_region _ _
@[go_sem] def r_ingotlaw22_PlaceBounds_2_o : Ops := [
oo 6 (.asg (.c (.bool false)))]
def r_ingotlaw22_PlaceBounds_2 := rg r_ingotlaw22_PlaceBounds_2_o [6]
@[go_sem] theorem r_ingotlaw22_PlaceBounds_2_u : Gr X K s r_ingotlaw22_PlaceBounds_2 r_ingotlaw22_PlaceBounds_2_o [6] := go_region _ _
@[go_sem] def r_ingotlaw22_PlaceBounds_3_o : Ops := [
oo 15 (.mv (.t 0)), oo 16 (.bin .lss (.t 15) (ci 798)), oo 17 (.mv (.t 16)), og 18 17 false (.mv (.t 0)), og 19 17 false (.bin .gtr (.t 18) (ci 803)), oo 20 (.pick (.t 17) (.c (.bool true)) (.t 19)), oo 21 (.mv (.t 20)), og 22 21 false (.mv (.t 1)), og 23 21 false (.bin .lss (.t 22) (ci 98)), oo 24 (.pick (.t 21) (.c (.bool true)) (.t 23)), oo 25 (.mv (.t 24)), og 26 25 false (.mv (.t 1)), og 27 25 false (.bin .gtr (.t 26) (ci 103)), oo 28 (.pick (.t 25) (.c (.bool true)) (.t 27))]
def r_ingotlaw22_PlaceBounds_3 := rg r_ingotlaw22_PlaceBounds_3_o [0, 1, 2, 28]
@[go_sem] theorem r_ingotlaw22_PlaceBounds_3_u : Gr X K s r_ingotlaw22_PlaceBounds_3 r_ingotlaw22_PlaceBounds_3_o [0, 1, 2, 28] := go_region _ _
@[go_sem] def r_ingotlaw22_PlaceBounds_4_o : Ops := [
oo 6 (.asg (.c (.bool true)))]
def r_ingotlaw22_PlaceBounds_4 := rg r_ingotlaw22_PlaceBounds_4_o [6]
@[go_sem] theorem r_ingotlaw22_PlaceBounds_4_u : Gr X K s r_ingotlaw22_PlaceBounds_4 r_ingotlaw22_PlaceBounds_4_o [6] := go_region _ _
@[go_sem] def r_ingotlaw22_PlaceBounds_5_o : Ops := [
oo 29 (.mv (.t 0)), oo 30 (.mkS 3 24 (.agg [(.int .i64 0), (.int .i64 0), (.int .i64 0)]) (.t 29) (.t 29)), oo 31 (.mv (.t 1)), oo 32 (.mkS 2 16 (.agg [(.int .i64 0), (.int .i64 0)]) (.t 31) (.t 31)), oo 33 (.buildR 2 [(0, 1, (.t 30)), (1, 1, (.t 32))]), oo 7 (.alloc [.nilS, .nilS]), ow (.store 2 (.t 7) (.t 33))]
def r_ingotlaw22_PlaceBounds_5_n : List (Nat × Nat) := [(0, 2), (1, 2), (0, 3), (1, 3), (0, 5), (1, 5), (2, 5), (3, 5), (4, 5)]
def r_ingotlaw22_PlaceBounds_5 : ICode := .region r_ingotlaw22_PlaceBounds_5_o r_ingotlaw22_PlaceBounds_5_n [0, 1, 2, 7]
@[go_sem] theorem r_ingotlaw22_PlaceBounds_5_u : go X (.c r_ingotlaw22_PlaceBounds_5 :: K) s = goRU X [] r_ingotlaw22_PlaceBounds_5_n r_ingotlaw22_PlaceBounds_5_o [0, 1, 2, 7] K s := go_regionU' _ _ _ _
@[go_sem] def r_ingotlaw22_PlaceBounds_6_o : Ops := [
oo 34 (.fieldA 0 (.t 7)), oo 35 (.load none (.t 34)), oo 36 (.mv (.t 2)), oo 37 (.idxA 3 (.t 35) (ci 0)), oo 38 (.fieldA 2 (.t 37)), ow (.store 1 (.t 38) (.t 36))]
def r_ingotlaw22_PlaceBounds_6 := rg r_ingotlaw22_PlaceBounds_6_o [0, 1, 2, 7]
@[go_sem] theorem r_ingotlaw22_PlaceBounds_6_u : Gr X K s r_ingotlaw22_PlaceBounds_6 r_ingotlaw22_PlaceBounds_6_o [0, 1, 2, 7] := go_region _ _
@[go_sem] def r_ingotlaw22_PlaceBounds_7_o : Ops := [
oo 40 (.load (some 2) (.t 7)), oo 41 (.call false n_sfoot_Encode [(.t 40)]), oo 39 (.mv (.t 41)), oo 42 (.ext (.t 39) 0), oo 43 (.ext (.t 39) 1), oo 8 (.asg (.t 42)), oo 9 (.asg (.t 43))]
def r_ingotlaw22_PlaceBounds_7 := rg r_ingotlaw22_PlaceBounds_7_o [0, 1, 2, 8, 9]
@[go_sem] theorem r_ingotlaw22_PlaceBounds_7_u : Gr X K s r_ingotlaw22_PlaceBounds_7 r_ingotlaw22_PlaceBounds_7_o [0, 1, 2, 8, 9] := go_region _ _
@[go_sem] def r_ingotlaw22_PlaceBounds_8_o : Ops := [
oo 44 (.mv (.t 0)), oo 45 (.bin .leq (.t 44) (ci 800)), oo 46 (.mv (.t 45)), og 47 46 true (.mv (.t 1)), og 48 46 true (.bin .leq (.t 47) (ci 100)), oo 49 (.pick (.t 46) (.t 48) (.c (.bool false))), oo 50 (.mv (.t 49)), og 51 50 true (.mv (.t 2)), og 52 50 true (.bin .geq (.t 51) (ci 0)), oo 53 (.pick (.t 50) (.t 52) (.c (.bool false))), oo 54 (.mv (.t 53)), og 55 54 true (.mv (.t 2)), og 56 54 true (.bin .leq (.t 55) (ci 262144)), oo 57 (.pick (.t 54) (.t 56) (.c (.bool false))), oo 10 (.asg (.t 57))]
def r_ingotlaw22_PlaceBounds_8 := rg r_ingotlaw22_PlaceBounds_8_o [0, 1, 2, 8, 9, 10]
@[go_sem] theorem r_ingotlaw22_PlaceBounds_8_u : Gr X K s r_ingotlaw22_PlaceBounds_8 r_ingotlaw22_PlaceBounds_8_o [0, 1, 2, 8, 9, 10] := go_region _ _
@[go_sem] def r_ingotlaw22_PlaceBounds_9_o : Ops := [
oo 58 (.mv (.t 10)), oo 59 (.un .not (.t 58))]
def r_ingotlaw22_PlaceBounds_9 := rg r_ingotlaw22_PlaceBounds_9_o [0, 1, 2, 8, 9, 59]
@[go_sem] theorem r_ingotlaw22_PlaceBounds_9_u : Gr X K s r_ingotlaw22_PlaceBounds_9 r_ingotlaw22_PlaceBounds_9_o [0, 1, 2, 8, 9, 59] := go_region _ _
@[go_sem] def r_ingotlaw22_PlaceBounds_10_o : Ops := [
oo 60 (.mv (.t 9)), oo 61 (.bin .eql (.t 60) (ci 1)), oo 62 (.mv (.t 61)), og 63 62 true (.mv (.t 8)), og 64 62 true (.len false (.t 63)), og 65 62 true (.bin .eql (.t 64) (ci 0)), oo 66 (.pick (.t 62) (.t 65) (.c (.bool false))), oo 6 (.asg (.t 66))]
def r_ingotlaw22_PlaceBounds_10 := rg r_ingotlaw22_PlaceBounds_10_o [6]
@[go_sem] theorem r_ingotlaw22_PlaceBounds_10_u : Gr X K s r_ingotlaw22_PlaceBounds_10 r_ingotlaw22_PlaceBounds_10_o [6] := go_region _ _
@[go_sem] def r_ingotlaw22_PlaceBounds_11_o : Ops := [
oo 68 (.mv (.t 8)), oo 69 (.call false n_sfoot_Decode [(.t 68)]), oo 67 (.mv (.t 69)), oo 70 (.ext (.t 67) 0), oo 71 (.ext (.t 67) 1), oo 11 (.alloc [.nilS, .nilS]), ow (.store 2 (.t 11) (.t 70)), oo 12 (.asg (.t 71))]
def r_ingotlaw22_PlaceBounds_11 := rg r_ingotlaw22_PlaceBounds_11_o [0, 1, 2, 9, 11, 12]
@[go_sem] theorem r_ingotlaw22_PlaceBounds_11_u : Gr X K s r_ingotlaw22_PlaceBounds_11 r_ingotlaw22_PlaceBounds_11_o [0, 1, 2, 9, 11, 12] := go_region _ _
@[go_sem] def r_ingotlaw22_PlaceBounds_12_o : Ops := [
oo 72 (.mv (.t 9)), oo 73 (.mv (.t 12)), oo 74 (.bin .add (.t 72) (.t 73)), oo 75 (.bin .eql (.t 74) (ci 0)), oo 76 (.mv (.t 75)), og 77 76 true (.fieldA 0 (.t 11)), og 78 76 true (.load none (.t 77)), og 79 76 true (.len false (.t 78)), og 80 76 true (.mv (.t 0)), og 81 76 true (.bin .eql (.t 79) (.t 80)), oo 82 (.pick (.t 76) (.t 81) (.c (.bool false))), oo 83 (.mv (.t 82)), og 84 83 true (.fieldA 1 (.t 11)), og 85 83 true (.load none (.t 84)), og 86 83 true (.len false (.t 85)), og 87 83 true (.mv (.t 1)), og 88 83 true (.bin .eql (.t 86) (.t 87)), oo 89 (.pick (.t 83) (.t 88) (.c (.bool false))), oo 90 (.mv (.t 89)), og 91 90 true (.fieldA 0 (.t 11)), og 92 90 true (.load none (.t 91)), og 93 90 true (.idxA 3 (.t 92) (ci 0)), og 94 90 true (.fieldA 2 (.t 93)), og 95 90 true (.load none (.t 94)), og 96 90 true (.mv (.t 2)), og 97 90 true (.bin .eql (.t 95) (.t 96)), oo 98 (.pick (.t 90) (.t 97) (.c (.bool false))), oo 6 (.asg (.t 98))]
def r_ingotlaw22_PlaceBounds_12 := rg r_ingotlaw22_PlaceBounds_12_o [6]
@[go_sem] theorem r_ingotlaw22_PlaceBounds_12_u : Gr X K s r_ingotlaw22_PlaceBounds_12 r_ingotlaw22_PlaceBounds_12_o [6] := go_region _ _
def c_ingotlaw22_PlaceBounds : ICode := (.seq r_ingotlaw22_PlaceBounds_0 (.seq r_ingotlaw22_PlaceBounds_1 (.cond (.t 14) (.seq r_ingotlaw22_PlaceBounds_2 .ret) (.seq r_ingotlaw22_PlaceBounds_3 (.cond (.t 28) (.seq r_ingotlaw22_PlaceBounds_4 .ret) (.seq r_ingotlaw22_PlaceBounds_5 (.seq r_ingotlaw22_PlaceBounds_6 (.seq r_ingotlaw22_PlaceBounds_7 (.seq r_ingotlaw22_PlaceBounds_8 (.seq r_ingotlaw22_PlaceBounds_9 (.cond (.t 59) (.seq r_ingotlaw22_PlaceBounds_10 .ret) (.seq r_ingotlaw22_PlaceBounds_11 (.seq r_ingotlaw22_PlaceBounds_12 .ret)))))))))))))
def i_ingotlaw22_PlaceBounds : IFunc := ⟨3, [.t 6], c_ingotlaw22_PlaceBounds⟩
def a_ingotlaw22_PlaceBounds : Advice := ⟨[33], [(12, [6]), (11, [0, 1, 2, 9, 11, 12]), (10, [6]), (9, [0, 1, 2, 8, 9, 59]), (8, [0, 1, 2, 8, 9, 10]), (7, [0, 1, 2, 8, 9]), (6, [0, 1, 2, 7]), (5, [0, 1, 2, 7]), (4, [6]), (3, [0, 1, 2, 28]), (2, [6]), (1, [0, 1, 2, 14]), (0, [0, 1, 2])], [], [], [], []⟩
/-! ingot/ingotlaw22.PlaceOrder -/
@[go_sem] def r_ingotlaw22_PlaceOrder_0_o : Ops := [
oo 4 (.asg (.c (.bool false)))]
def r_ingotlaw22_PlaceOrder_0 := rg r_ingotlaw22_PlaceOrder_0_o [0, 1]
@[go_sem] theorem r_ingotlaw22_PlaceOrder_0_u : Gr X K s r_ingotlaw22_PlaceOrder_0 r_ingotlaw22_PlaceOrder_0_o [0, 1] := go_region _ _
@[go_sem] def r_ingotlaw22_PlaceOrder_1_o : Ops := [
oo 18 (.call false n_ingotlaw22_known []), oo 19 (.un .not (.t 18))]
def r_ingotlaw22_PlaceOrder_1 := rg r_ingotlaw22_PlaceOrder_1_o [0, 1, 19]
@[go_sem] theorem r_ingotlaw22_PlaceOrder_1_u : Gr X K s r_ingotlaw22_PlaceOrder_1 r_ingotlaw22_PlaceOrder_1_o [0, 1, 19] := go_region _ _
@[go_sem] def r_ingotlaw22_PlaceOrder_2_o : Ops := [
oo 4 (.asg (.c (.bool false)))]
def r_ingotlaw22_PlaceOrder_2 := rg r_ingotlaw22_PlaceOrder_2_o [4]
@[go_sem] theorem r_ingotlaw22_PlaceOrder_2_u : Gr X K s r_ingotlaw22_PlaceOrder_2 r_ingotlaw22_PlaceOrder_2_o [4] := go_region _ _
@[go_sem] def r_ingotlaw22_PlaceOrder_3_o : Ops := [
oo 20 (.mv (.t 0)), oo 21 (.len false (.t 20)), oo 22 (.bin .gtr (.t 21) (ci 100)), oo 23 (.mv (.t 22)), og 24 23 false (.mv (.t 1)), og 25 23 false (.len false (.t 24)), og 26 23 false (.bin .gtr (.t 25) (ci 100)), oo 27 (.pick (.t 23) (.c (.bool true)) (.t 26))]
def r_ingotlaw22_PlaceOrder_3 := rg r_ingotlaw22_PlaceOrder_3_o [0, 1, 27]
@[go_sem] theorem r_ingotlaw22_PlaceOrder_3_u : Gr X K s r_ingotlaw22_PlaceOrder_3 r_ingotlaw22_PlaceOrder_3_o [0, 1, 27] := go_region _ _
@[go_sem] def r_ingotlaw22_PlaceOrder_4_o : Ops := [
oo 4 (.asg (.c (.bool true)))]
def r_ingotlaw22_PlaceOrder_4 := rg r_ingotlaw22_PlaceOrder_4_o [4]
@[go_sem] theorem r_ingotlaw22_PlaceOrder_4_u : Gr X K s r_ingotlaw22_PlaceOrder_4 r_ingotlaw22_PlaceOrder_4_o [4] := go_region _ _
@[go_sem] def r_ingotlaw22_PlaceOrder_5_o : Ops := [
oo 5 (.alloc [.nilS, .nilS])]
def r_ingotlaw22_PlaceOrder_5 := rg r_ingotlaw22_PlaceOrder_5_o [0, 1, 5]
@[go_sem] theorem r_ingotlaw22_PlaceOrder_5_u : Gr X K s r_ingotlaw22_PlaceOrder_5 r_ingotlaw22_PlaceOrder_5_o [0, 1, 5] := go_region _ _
@[go_sem] def r_ingotlaw22_PlaceOrder_6_o : Ops := [
oo 6 (.asg (ci 0))]
def r_ingotlaw22_PlaceOrder_6 := rg r_ingotlaw22_PlaceOrder_6_o [0, 1, 5, 6]
@[go_sem] theorem r_ingotlaw22_PlaceOrder_6_u : Gr X K s r_ingotlaw22_PlaceOrder_6 r_ingotlaw22_PlaceOrder_6_o [0, 1, 5, 6] := go_region _ _
@[go_sem] def r_ingotlaw22_PlaceOrder_7_o : Ops := [
oo 28 (.mv (.t 6)), oo 29 (.mv (.t 0)), oo 30 (.len false (.t 29)), oo 31 (.bin .lss (.t 28) (.t 30))]
def r_ingotlaw22_PlaceOrder_7 := rg r_ingotlaw22_PlaceOrder_7_o [0, 1, 5, 6, 31]
@[go_sem] theorem r_ingotlaw22_PlaceOrder_7_u : Gr X K s r_ingotlaw22_PlaceOrder_7 r_ingotlaw22_PlaceOrder_7_o [0, 1, 5, 6, 31] := go_region _ _
@[go_sem] def r_ingotlaw22_PlaceOrder_8_o : Ops := [
oo 34 (.fieldA 0 (.t 5)), oo 35 (.load none (.t 34)), oo 36 (.mv (.t 0)), oo 37 (.mv (.t 6)), oo 38 (.idxA 1 (.t 36) (.t 37)), oo 39 (.load none (.t 38)), oo 40 (.cvInt .i64 (.t 39)), oo 41 (.mv (.t 6)), oo 42 (.mv (.t 6)), oo 43 (.bin .mul (ci 3) (.t 42)), oo 44 (.build [(.int .i64 0), (.int .i64 0), (.int .i64 0)] [(0, 1, (.t 40)), (1, 1, (.t 41)), (2, 1, (.t 43))]), oo 45 (.lit false 3 1 (.agg [(.int .i64 0), (.int .i64 0), (.int .i64 0)]) [(0, (.t 44))]), oo 46 (.append 3 24 (.t 35) (.t 45)), oo 47 (.fieldA 0 (.t 5)), ow (.store 1 (.t 47) (.t 46))]
def r_ingotlaw22_PlaceOrder_8_n : List (Nat × Nat) := [(0, 2), (1, 2), (0, 3), (1, 3), (2, 3), (0, 4), (1, 4), (0, 5), (1, 5), (0, 6), (1, 6), (0, 7), (1, 7), (2, 7), (3, 7), (4, 7), (5, 7), (6, 7), (0, 8), (1, 8), (2, 8), (3, 8), (4, 8), (5, 8), (6, 8), (7, 8), (0, 9), (1, 9), (2, 9), (3, 9), (4, 9), (5, 9), (6, 9), (7, 9), (0, 10), (1, 10), (0, 11), (1, 11)]
def r_ingotlaw22_PlaceOrder_8 : ICode := .region r_ingotlaw22_PlaceOrder_8_o r_ingotlaw22_PlaceOrder_8_n [0, 1, 5, 6]
@[go_sem] theorem r_ingotlaw22_PlaceOrder_8_u : go X (.c r_ingotlaw22_PlaceOrder_8 :: K) s = goRU X [] r_ingotlaw22_PlaceOrder_8_n r_ingotlaw22_PlaceOrder_8_o [0, 1, 5, 6] K s := go_regionU' _ _ _ _
@[go_sem] def r_ingotlaw22_PlaceOrder_9_o : Ops := [
oo 32 (.mv (.t 6)), oo 33 (.bin .add (.t 32) (ci 1)), oo 6 (.asg (.t 33))]
def r_ingotlaw22_PlaceOrder_9 := rg r_ingotlaw22_PlaceOrder_9_o [0, 1, 5, 6]
@[go_sem] theorem r_ingotlaw22_PlaceOrder_9_u : Gr X K s r_ingotlaw22_PlaceOrder_9 r_ingotlaw22_PlaceOrder_9_o [0, 1, 5, 6] := go_region _ _
def b_ingotlaw22_PlaceOrder_10 : ICode := (.seq (.seq r_ingotlaw22_PlaceOrder_7 (.cond (.t 31) .skip (.exit 0))) (.seq (.block 1 r_ingotlaw22_PlaceOrder_8) r_ingotlaw22_PlaceOrder_9))
@[go_sem] theorem b_ingotlaw22_PlaceOrder_10_u : Gn X K s b_ingotlaw22_PlaceOrder_10 (.seq (.seq r_ingotlaw22_PlaceOrder_7 (.cond (.t 31) .skip (.exit 0))) (.seq (.block 1 r_ingotlaw22_PlaceOrder_8) r_ingotlaw22_PlaceOrder_9)) := rfl
@[go_sem] def r_ingotlaw22_PlaceOrder_11_o : Ops := [
oo 7 (.asg (ci 0))]
def r_ingotlaw22_PlaceOrder_11 := rg r_ingotlaw22_PlaceOrder_11_o [1, 5, 7]
@[go_sem] theorem r_ingotlaw22_PlaceOrder_11_u : Gr X K s r_ingotlaw22_PlaceOrder_11 r_ingotlaw22_PlaceOrder_11_o [1, 5, 7] := go_region _ _
@[go_sem] def r_ingotlaw22_PlaceOrder_12_o : Ops := [
oo 48 (.mv (.t 7)), oo 49 (.mv (.t 1)), oo 50 (.len false (.t 49)), oo 51 (.bin .lss (.t 48) (.t 50))]
def r_ingotlaw22_PlaceOrder_12 := rg r_ingotlaw22_PlaceOrder_12_o [1, 5, 7, 51]
@[go_sem] theorem r_ingotlaw22_PlaceOrder_12_u : Gr X K s r_ingotlaw22_PlaceOrder_12 r_ingotlaw22_PlaceOrder_12_o [1, 5, 7, 51] := go_region _ _
@[go_sem] def r_ingotlaw22_PlaceOrder_13_o : Ops := [
oo 54 (.fieldA 1 (.t 5)), oo 55 (.load none (.t 54)), oo 56 (.mv (.t 7)), oo 57 (.bin .rem (.t 56) (ci 4)), oo 58 (.mv (.t 1)), oo 59 (.mv (.t 7)), oo 60 (.idxA 1 (.t 58) (.t 59)), oo 61 (.load none (.t 60)), oo 62 (.cvInt .i64 (.t 61)), oo 63 (.build [(.int .i64 0), (.int .i64 0)] [(0, 1, (.t 57)), (1, 1, (.t 62))]), oo 64 (.lit false 2 1 (.agg [(.int .i64 0), (.int .i64 0)]) [(0, (.t 63))]), oo 65 (.append 2 16 (.t 55) (.t 64)), oo 66 (.fieldA 1 (.t 5)), ow (.store 1 (.t 66) (.t 65))]
def r_ingotlaw22_PlaceOrder_13_n : List (Nat × Nat) := [(0, 2), (1, 2), (0, 3), (1, 3), (0, 4), (1, 4), (2, 4), (3, 4), (0, 5), (1, 5), (2, 5), (3, 5), (4, 5), (0, 6), (1, 6), (2, 6), (3, 6), (0, 7), (1, 7), (2, 7), (3, 7), (0, 8), (1, 8), (2, 8), (3, 8), (0, 9), (1, 9), (0, 10), (1, 10)]
def r_ingotlaw22_PlaceOrder_13 : ICode := .region r_ingotlaw22_PlaceOrder_13_o r_ingotlaw22_PlaceOrder_13_n [1, 5, 7]
@[go_sem] theorem r_ingotlaw22_PlaceOrder_13_u : go X (.c r_ingotlaw22_PlaceOrder_13 :: K) s = goRU X [] r_ingotlaw22_PlaceOrder_13_n r_ingotlaw22_PlaceOrder_13_o [1, 5, 7] K s := go_regionU' _ _ _ _
@[go_sem] def r_ingotlaw22_PlaceOrder_14_o : Ops := [
oo 52 (.mv (.t 7)), oo 53 (.bin .add (.t 52) (ci 1)), oo 7 (.asg (.t 53))]
def r_ingotlaw22_PlaceOrder_14 := rg r_ingotlaw22_PlaceOrder_14_o [1, 5, 7]
@[go_sem] theorem r_ingotlaw22_PlaceOrder_14_u : Gr X K s r_ingotlaw22_PlaceOrder_14 r_ingotlaw22_PlaceOrder_14_o [1, 5, 7] := go_region _ _
def b_ingotlaw22_PlaceOrder_15 : ICode := (.seq (.seq r_ingotlaw22_PlaceOrder_12 (.cond (.t 51) .skip (.exit 2))) (.seq (.block 3 r_ingotlaw22_PlaceOrder_13) r_ingotlaw22_PlaceOrder_14))
@[go_sem] theorem b_ingotlaw22_PlaceOrder_15_u : Gn X K s b_ingotlaw22_PlaceOrder_15 (.seq (.seq r_ingotlaw22_PlaceOrder_12 (.cond (.t 51) .skip (.exit 2))) (.seq (.block 3 r_ingotlaw22_PlaceOrder_13) r_ingotlaw22_PlaceOrder_14)) := rfl
@[go_sem] def r_ingotlaw22_PlaceOrder_16_o : Ops := [
oo 68 (.load (some 2) (.t 5)), oo 69 (.call false n_sfoot_Encode [(.t 68)]), oo 67 (.mv (.t 69)), oo 70 (.ext (.t 67) 0), oo 71 (.ext (.t 67) 1), oo 8 (.asg (.t 70)), oo 9 (.asg (.t 71))]
def r_ingotlaw22_PlaceOrder_16 := rg r_ingotlaw22_PlaceOrder_16_o [5, 8, 9]
@[go_sem] theorem r_ingotlaw22_PlaceOrder_16_u : Gr X K s r_ingotlaw22_PlaceOrder_16 r_ingotlaw22_PlaceOrder_16_o [5, 8, 9] := go_region _ _
@[go_sem] def r_ingotlaw22_PlaceOrder_17_o : Ops := [
oo 73 (.fieldA 0 (.t 5)), oo 74 (.load none (.t 73)), oo 75 (.build [(.sl []), (.sl [])] [(0, 1, (.t 74))]), oo 76 (.call false n_sfoot_Encode [(.t 75)]), oo 72 (.mv (.t 76)), oo 77 (.ext (.t 72) 0), oo 78 (.ext (.t 72) 1), oo 10 (.asg (.t 77)), oo 11 (.asg (.t 78))]
def r_ingotlaw22_PlaceOrder_17 := rg r_ingotlaw22_PlaceOrder_17_o [5, 8, 9, 10]
@[go_sem] theorem r_ingotlaw22_PlaceOrder_17_u : Gr X K s r_ingotlaw22_PlaceOrder_17 r_ingotlaw22_PlaceOrder_17_o [5, 8, 9, 10] := go_region _ _
@[go_sem] def r_ingotlaw22_PlaceOrder_18_o : Ops := [
oo 80 (.fieldA 1 (.t 5)), oo 81 (.load none (.t 80)), oo 82 (.build [(.sl []), (.sl [])] [(1, 1, (.t 81))]), oo 83 (.call false n_sfoot_Encode [(.t 82)]), oo 79 (.mv (.t 83)), oo 84 (.ext (.t 79) 0), oo 85 (.ext (.t 79) 1), oo 12 (.asg (.t 84)), oo 13 (.asg (.t 85))]
def r_ingotlaw22_PlaceOrder_18 := rg r_ingotlaw22_PlaceOrder_18_o [5, 8, 9, 10, 12]
@[go_sem] theorem r_ingotlaw22_PlaceOrder_18_u : Gr X K s r_ingotlaw22_PlaceOrder_18 r_ingotlaw22_PlaceOrder_18_o [5, 8, 9, 10, 12] := go_region _ _
@[go_sem] def r_ingotlaw22_PlaceOrder_19_o : Ops := [
oo 87 (.mv (.t 8)), oo 88 (.call false n_sfoot_Decode [(.t 87)]), oo 86 (.mv (.t 88)), oo 89 (.ext (.t 86) 0), oo 90 (.ext (.t 86) 1), oo 14 (.alloc [.nilS, .nilS]), ow (.store 2 (.t 14) (.t 89)), oo 15 (.asg (.t 90))]
def r_ingotlaw22_PlaceOrder_19 := rg r_ingotlaw22_PlaceOrder_19_o [5, 9, 10, 12, 14, 15]
@[go_sem] theorem r_ingotlaw22_PlaceOrder_19_u : Gr X K s r_ingotlaw22_PlaceOrder_19 r_ingotlaw22_PlaceOrder_19_o [5, 9, 10, 12, 14, 15] := go_region _ _
@[go_sem] def r_ingotlaw22_PlaceOrder_20_o : Ops := [
oo 92 (.lit true 1 0 (.int .u8 0) []), oo 93 (.mv (.t 12)), oo 94 (.append 1 1 (.t 92) (.t 93)), oo 95 (.mv (.t 10)), oo 96 (.append 1 1 (.t 94) (.t 95)), oo 97 (.call false n_sfoot_Decode [(.t 96)]), oo 91 (.mv (.t 97)), oo 98 (.ext (.t 91) 0), oo 99 (.ext (.t 91) 1), oo 16 (.alloc [.nilS, .nilS]), ow (.store 2 (.t 16) (.t 98)), oo 17 (.asg (.t 99))]
def r_ingotlaw22_PlaceOrder_20 := rg r_ingotlaw22_PlaceOrder_20_o [5, 9, 14, 15, 16, 17]
@[go_sem] theorem r_ingotlaw22_PlaceOrder_20_u : Gr X K s r_ingotlaw22_PlaceOrder_20 r_ingotlaw22_PlaceOrder_20_o [5, 9, 14, 15, 16, 17] := go_region _ _
@[go_sem] def r_ingotlaw22_PlaceOrder_21_o : Ops := [
oo 100 (.mv (.t 9)), oo 101 (.mv (.t 15)), oo 102 (.bin .add (.t 100) (.t 101)), oo 103 (.mv (.t 17)), oo 104 (.bin .add (.t 102) (.t 103)), oo 105 (.bin .eql (.t 104) (ci 0)), oo 106 (.mv (.t 105)), og 107 106 true (.load (some 2) (.t 14)), og 108 106 true (.call false n_ingotlaw22_Of [(.t 107)]), og 109 106 true (.load (some 2) (.t 5)), og 110 106 true (.call false n_ingotlaw22_Of [(.t 109)]), og 111 106 true (.call false n_ingotlaw22_same [(.t 108), (.t 110)]), oo 112 (.pick (.t 106) (.t 111) (.c (.bool false))), oo 113 (.mv (.t 112)), og 114 113 true (.load (some 2) (.t 16)), og 115 113 true (.call false n_ingotlaw22_Of [(.t 114)]), og 116 113 true (.load (some 2) (.t 5)), og 117 113 true (.call false n_ingotlaw22_Of [(.t 116)]), og 118 113 true (.call false n_ingotlaw22_same [(.t 115), (.t 117)]), oo 119 (.pick (.t 113) (.t 118) (.c (.bool false))), oo 4 (.asg (.t 119))]
def r_ingotlaw22_PlaceOrder_21_n : List (Nat × Nat) := [(0, 1), (0, 3), (1, 3), (2, 3), (7, 9), (8, 9), (14, 16), (15, 16)]
def r_ingotlaw22_PlaceOrder_21 : ICode := .region r_ingotlaw22_PlaceOrder_21_o r_ingotlaw22_PlaceOrder_21_n [4]
@[go_sem] theorem r_ingotlaw22_PlaceOrder_21_u : go X (.c r_ingotlaw22_PlaceOrder_21 :: K) s = goRU X [] r_ingotlaw22_PlaceOrder_21_n r_ingotlaw22_PlaceOrder_21_o [4] K s := go_regionU' _ _ _ _
def c_ingotlaw22_PlaceOrder : ICode := (.seq r_ingotlaw22_PlaceOrder_0 (.seq r_ingotlaw22_PlaceOrder_1 (.cond (.t 19) (.seq r_ingotlaw22_PlaceOrder_2 .ret) (.seq r_ingotlaw22_PlaceOrder_3 (.cond (.t 27) (.seq r_ingotlaw22_PlaceOrder_4 .ret) (.seq r_ingotlaw22_PlaceOrder_5 (.seq (.seq r_ingotlaw22_PlaceOrder_6 (.block 0 (.loop b_ingotlaw22_PlaceOrder_10))) (.seq (.seq r_ingotlaw22_PlaceOrder_11 (.block 2 (.loop b_ingotlaw22_PlaceOrder_15))) (.seq r_ingotlaw22_PlaceOrder_16 (.seq r_ingotlaw22_PlaceOrder_17 (.seq r_ingotlaw22_PlaceOrder_18 (.seq r_ingotlaw22_PlaceOrder_19 (.seq r_ingotlaw22_PlaceOrder_20 (.seq r_ingotlaw22_PlaceOrder_21 .ret))))))))))))))
def i_ingotlaw22_PlaceOrder : IFunc := ⟨2, [.t 4], c_ingotlaw22_PlaceOrder⟩
def a_ingotlaw22_PlaceOrder : Advice := ⟨[46, 65, 92, 94], [(19, [4]), (18, [5, 9, 14, 15, 16, 17]), (17, [5, 9, 10, 12, 14, 15]), (16, [5, 8, 9, 10, 12]), (15, [5, 8, 9, 10]), (14, [5, 8, 9]), (12, [1, 5, 7]), (13, [1, 5, 7]), (11, [1, 5, 7, 51]), (10, [1, 5, 7]), (8, [0, 1, 5, 6]), (9, [0, 1, 5, 6]), (7, [0, 1, 5, 6, 31]), (6, [0, 1, 5, 6]), (5, [0, 1, 5]), (4, [4]), (3, [0, 1, 27]), (2, [4]), (1, [0, 1, 19]), (0, [0, 1])], [], [], [], []⟩
/-! ingot/ingotref3.PutBytes -/
@[go_sem] def r_ingotref3_PutBytes_0_o : Ops := [
oo 6 (.asg (.c .nilS))]
def r_ingotref3_PutBytes_0 := rg r_ingotref3_PutBytes_0_o [0, 1, 2]
@[go_sem] theorem r_ingotref3_PutBytes_0_u : Gr X K s r_ingotref3_PutBytes_0 r_ingotref3_PutBytes_0_o [0, 1, 2] := go_region _ _
@[go_sem] def r_ingotref3_PutBytes_1_o : Ops := [
oo 7 (.mv (.t 1)), oo 8 (.call false n_ingotref3_may [(.t 7)]), oo 9 (.un .not (.t 8))]
def r_ingotref3_PutBytes_1 := rg r_ingotref3_PutBytes_1_o [0, 1, 2, 9]
@[go_sem] theorem r_ingotref3_PutBytes_1_u : Gr X K s r_ingotref3_PutBytes_1 r_ingotref3_PutBytes_1_o [0, 1, 2, 9] := go_region _ _
@[go_sem] def r_ingotref3_PutBytes_2_o : Ops := [
oo 10 (.mv (.t 0)), oo 6 (.asg (.t 10))]
def r_ingotref3_PutBytes_2 := rg r_ingotref3_PutBytes_2_o [6]
@[go_sem] theorem r_ingotref3_PutBytes_2_u : Gr X K s r_ingotref3_PutBytes_2 r_ingotref3_PutBytes_2_o [6] := go_region _ _
@[go_sem] def r_ingotref3_PutBytes_3_o : Ops := [
oo 11 (.mv (.t 0)), oo 12 (.mv (.t 1)), oo 13 (.cvInt .u64 (.t 12)), oo 14 (.bin .shl (.t 13) (.c (.int .u64 3))), oo 15 (.bin .or (.t 14) (.c (.int .u64 2))), oo 16 (.callg true n_ingotref1_PutVar [(.t 11), (.t 15)] 0), oo 17 (.mv (.t 2)), oo 18 (.len false (.t 17)), oo 19 (.cvInt .u64 (.t 18)), oo 20 (.callg true n_ingotref1_PutVar [(.t 16), (.t 19)] 0), oo 21 (.mv (.t 2)), oo 22 (.append 1 1 (.t 20) (.t 21)), oo 6 (.asg (.t 22))]
def r_ingotref3_PutBytes_3 := rg r_ingotref3_PutBytes_3_o [6]
@[go_sem] theorem r_ingotref3_PutBytes_3_u : Gr X K s r_ingotref3_PutBytes_3 r_ingotref3_PutBytes_3_o [6] := go_region _ _
def c_ingotref3_PutBytes : ICode := (.seq r_ingotref3_PutBytes_0 (.seq r_ingotref3_PutBytes_1 (.cond (.t 9) (.seq r_ingotref3_PutBytes_2 .ret) (.seq r_ingotref3_PutBytes_3 .ret))))
def i_ingotref3_PutBytes : IFunc := ⟨3, [.t 6], c_ingotref3_PutBytes⟩
def a_ingotref3_PutBytes : Advice := ⟨[16, 20], [(3, [6]), (2, [6]), (1, [0, 1, 2, 9]), (0, [0, 1, 2])], [], [], [(16, 0), (20, 0)], []⟩
/-! ingot/ingotref1.PutVar -/
@[go_sem] def r_ingotref1_PutVar_0_o : Ops := [
oo 4 (.asg (.c .nilS))]
def r_ingotref1_PutVar_0 := rg r_ingotref1_PutVar_0_o [0, 1]
@[go_sem] theorem r_ingotref1_PutVar_0_u : Gr X K s r_ingotref1_PutVar_0 r_ingotref1_PutVar_0_o [0, 1] := go_region _ _
@[go_sem] def r_ingotref1_PutVar_1_o : Ops := [
oo 5 (.mv (.t 1)), oo 6 (.bin .geq (.t 5) (.c (.int .u64 128)))]
def r_ingotref1_PutVar_1 := rg r_ingotref1_PutVar_1_o [0, 1, 6]
@[go_sem] theorem r_ingotref1_PutVar_1_u : Gr X K s r_ingotref1_PutVar_1 r_ingotref1_PutVar_1_o [0, 1, 6] := go_region _ _
@[go_sem] def r_ingotref1_PutVar_2_o : Ops := [
oo 7 (.mv (.t 0)), oo 8 (.mv (.t 1)), oo 9 (.bin .and (.t 8) (.c (.int .u64 127))), oo 10 (.bin .or (.t 9) (.c (.int .u64 128))), oo 11 (.cvInt .u8 (.t 10)), oo 12 (.lit false 1 1 (.int .u8 0) [(0, (.t 11))]), oo 13 (.append 1 1 (.t 7) (.t 12)), oo 0 (.asg (.t 13))]
def r_ingotref1_PutVar_2 := rg r_ingotref1_PutVar_2_o [0, 1]
@[go_sem] theorem r_ingotref1_PutVar_2_u : Gr X K s r_ingotref1_PutVar_2 r_ingotref1_PutVar_2_o [0, 1] := go_region _ _
@[go_sem] def r_ingotref1_PutVar_3_o : Ops := [
oo 14 (.mv (.t 1)), oo 15 (.bin .shr (.t 14) (.c (.int .u64 7))), oo 1 (.asg (.t 15))]
def r_ingotref1_PutVar_3 := rg r_ingotref1_PutVar_3_o [0, 1]
@[go_sem] theorem r_ingotref1_PutVar_3_u : Gr X K s r_ingotref1_PutVar_3 r_ingotref1_PutVar_3_o [0, 1] := go_region _ _
def b_ingotref1_PutVar_4 : ICode := (.seq (.seq r_ingotref1_PutVar_1 (.cond (.t 6) .skip (.exit 0))) (.block 1 (.seq r_ingotref1_PutVar_2 r_ingotref1_PutVar_3)))
@[go_sem] theorem b_ingotref1_PutVar_4_u : Gn X K s b_ingotref1_PutVar_4 (.seq (.seq r_ingotref1_PutVar_1 (.cond (.t 6) .skip (.exit 0))) (.block 1 (.seq r_ingotref1_PutVar_2 r_ingotref1_PutVar_3))) := rfl
@[go_sem] def r_ingotref1_PutVar_5_o : Ops := [
oo 16 (.mv (.t 0)), oo 17 (.mv (.t 1)), oo 18 (.cvInt .u8 (.t 17)), oo 19 (.lit false 1 1 (.int .u8 0) [(0, (.t 18))]), oo 20 (.append 1 1 (.t 16) (.t 19)), oo 4 (.asg (.t 20))]
def r_ingotref1_PutVar_5 := rg r_ingotref1_PutVar_5_o [4]
@[go_sem] theorem r_ingotref1_PutVar_5_u : Gr X K s r_ingotref1_PutVar_5 r_ingotref1_PutVar_5_o [4] := go_region _ _
def c_ingotref1_PutVar : ICode := (.seq r_ingotref1_PutVar_0 (.seq (.block 0 (.loop b_ingotref1_PutVar_4)) (.seq r_ingotref1_PutVar_5 .ret)))
def i_ingotref1_PutVar : IFunc := ⟨2, [.t 4], c_ingotref1_PutVar⟩
def a_ingotref1_PutVar : Advice := ⟨[13], [(4, [4]), (3, [0, 1]), (2, [0, 1]), (1, [0, 1, 6]), (0, [0, 1])], [], [], [], []⟩
/-! ingot/ingotref3.may -/
@[go_sem] def r_ingotref3_may_0_o : Ops := [
oo 2 (.asg (.c (.bool false)))]
def r_ingotref3_may_0 := rg r_ingotref3_may_0_o [0]
@[go_sem] theorem r_ingotref3_may_0_u : Gr X K s r_ingotref3_may_0 r_ingotref3_may_0_o [0] := go_region _ _
@[go_sem] def r_ingotref3_may_1_o : Ops := [
oo 3 (.mv (.t 0)), oo 4 (.bin .geq (.t 3) (ci 1)), oo 5 (.mv (.t 4)), og 6 5 true (.mv (.t 0)), og 7 5 true (.bin .leq (.t 6) (ci 536870911)), oo 8 (.pick (.t 5) (.t 7) (.c (.bool false))), oo 2 (.asg (.t 8))]
def r_ingotref3_may_1 := rg r_ingotref3_may_1_o [2]
@[go_sem] theorem r_ingotref3_may_1_u : Gr X K s r_ingotref3_may_1 r_ingotref3_may_1_o [2] := go_region _ _
def c_ingotref3_may : ICode := (.seq r_ingotref3_may_0 (.seq r_ingotref3_may_1 .ret))
def i_ingotref3_may : IFunc := ⟨1, [.t 2], c_ingotref3_may⟩
def a_ingotref3_may : Advice := ⟨[], [(1, [2]), (0, [0])], [], [], [], []⟩
/-! ingot/ingotref3.PutUint -/
@[go_sem] def r_ingotref3_PutUint_0_o : Ops := [
oo 6 (.asg (.c .nilS))]
def r_ingotref3_PutUint_0 := rg r_ingotref3_PutUint_0_o [0, 1, 2]
@[go_sem] theorem r_ingotref3_PutUint_0_u : Gr X K s r_ingotref3_PutUint_0 r_ingotref3_PutUint_0_o [0, 1, 2] := go_region _ _
@[go_sem] def r_ingotref3_PutUint_1_o : Ops := [
oo 7 (.mv (.t 1)), oo 8 (.call false n_ingotref3_may [(.t 7)]), oo 9 (.un .not (.t 8))]
def r_ingotref3_PutUint_1 := rg r_ingotref3_PutUint_1_o [0, 1, 2, 9]
@[go_sem] theorem r_ingotref3_PutUint_1_u : Gr X K s r_ingotref3_PutUint_1 r_ingotref3_PutUint_1_o [0, 1, 2, 9] := go_region _ _
@[go_sem] def r_ingotref3_PutUint_2_o : Ops := [
oo 10 (.mv (.t 0)), oo 6 (.asg (.t 10))]
def r_ingotref3_PutUint_2 := rg r_ingotref3_PutUint_2_o [6]
@[go_sem] theorem r_ingotref3_PutUint_2_u : Gr X K s r_ingotref3_PutUint_2 r_ingotref3_PutUint_2_o [6] := go_region _ _
@[go_sem] def r_ingotref3_PutUint_3_o : Ops := [
oo 11 (.mv (.t 0)), oo 12 (.mv (.t 1)), oo 13 (.cvInt .u64 (.t 12)), oo 14 (.bin .shl (.t 13) (.c (.int .u64 3))), oo 15 (.callg true n_ingotref1_PutVar [(.t 11), (.t 14)] 0), oo 16 (.mv (.t 2)), oo 17 (.callg true n_ingotref1_PutVar [(.t 15), (.t 16)] 0), oo 6 (.asg (.t 17))]
def r_ingotref3_PutUint_3 := rg r_ingotref3_PutUint_3_o [6]
@[go_sem] theorem r_ingotref3_PutUint_3_u : Gr X K s r_ingotref3_PutUint_3 r_ingotref3_PutUint_3_o [6] := go_region _ _
def c_ingotref3_PutUint : ICode := (.seq r_ingotref3_PutUint_0 (.seq r_ingotref3_PutUint_1 (.cond (.t 9) (.seq r_ingotref3_PutUint_2 .ret) (.seq r_ingotref3_PutUint_3 .ret))))
def i_ingotref3_PutUint : IFunc := ⟨3, [.t 6], c_ingotref3_PutUint⟩
def a_ingotref3_PutUint : Advice := ⟨[15, 17], [(3, [6]), (2, [6]), (1, [0, 1, 2, 9]), (0, [0, 1, 2])], [], [], [(15, 0), (17, 0)], []⟩
/-! ingot/ingotref22.in -/
@[go_sem] def r_ingotref22_in_0_o : Ops := [
oo 2 (.asg (.c (.bool false)))]
def r_ingotref22_in_0 := rg r_ingotref22_in_0_o [0]
@[go_sem] theorem r_ingotref22_in_0_u : Gr X K s r_ingotref22_in_0 r_ingotref22_in_0_o [0] := go_region _ _
@[go_sem] def r_ingotref22_in_1_o : Ops := [
oo 3 (.mv (.t 0)), oo 4 (.bin .geq (.t 3) (ci 0)), oo 5 (.mv (.t 4)), og 6 5 true (.mv (.t 0)), og 7 5 true (.bin .leq (.t 6) (ci 262144)), oo 8 (.pick (.t 5) (.t 7) (.c (.bool false))), oo 2 (.asg (.t 8))]
def r_ingotref22_in_1 := rg r_ingotref22_in_1_o [2]
@[go_sem] theorem r_ingotref22_in_1_u : Gr X K s r_ingotref22_in_1 r_ingotref22_in_1_o [2] := go_region _ _
def c_ingotref22_in : ICode := (.seq r_ingotref22_in_0 (.seq r_ingotref22_in_1 .ret))
def i_ingotref22_in : IFunc := ⟨1, [.t 2], c_ingotref22_in⟩
def a_ingotref22_in : Advice := ⟨[], [(1, [2]), (0, [0])], [], [], [], []⟩
/-! ingot/ingotref22.Encode -/
@[go_sem] def r_ingotref22_Encode_0_o : Ops := [
oo 1 (.box 2 (.t 0)), oo 2 (.asg (.c .nilS)), oo 3 (.asg (ci 0))]
def r_ingotref22_Encode_0 := rg r_ingotref22_Encode_0_o [1]
@[go_sem] theorem r_ingotref22_Encode_0_u : Gr X K s r_ingotref22_Encode_0 r_ingotref22_Encode_0_o [1] := go_region _ _
@[go_sem] def r_ingotref22_Encode_1_o : Ops := [
oo 12 (.fieldA 0 (.t 1)), oo 13 (.load none (.t 12)), oo 14 (.len false (.t 13)), oo 15 (.bin .leq (.t 14) (ci 800)), oo 16 (.mv (.t 15)), og 17 16 true (.fieldA 1 (.t 1)), og 18 16 true (.load none (.t 17)), og 19 16 true (.len false (.t 18)), og 20 16 true (.bin .leq (.t 19) (ci 100)), oo 21 (.pick (.t 16) (.t 20) (.c (.bool false))), oo 4 (.asg (.t 21))]
def r_ingotref22_Encode_1 := rg r_ingotref22_Encode_1_o [1, 4]
@[go_sem] theorem r_ingotref22_Encode_1_u : Gr X K s r_ingotref22_Encode_1 r_ingotref22_Encode_1_o [1, 4] := go_region _ _
@[go_sem] def r_ingotref22_Encode_2_o : Ops := [
oo 5 (.asg (ci 0))]
def r_ingotref22_Encode_2 := rg r_ingotref22_Encode_2_o [1, 4, 5]
@[go_sem] theorem r_ingotref22_Encode_2_u : Gr X K s r_ingotref22_Encode_2 r_ingotref22_Encode_2_o [1, 4, 5] := go_region _ _
@[go_sem] def r_ingotref22_Encode_3_o : Ops := [
oo 22 (.mv (.t 5)), oo 23 (.fieldA 0 (.t 1)), oo 24 (.load none (.t 23)), oo 25 (.len false (.t 24)), oo 26 (.bin .lss (.t 22) (.t 25)), oo 27 (.mv (.t 26)), og 28 27 true (.mv (.t 4)), oo 29 (.pick (.t 27) (.t 28) (.c (.bool false)))]
def r_ingotref22_Encode_3 := rg r_ingotref22_Encode_3_o [1, 4, 5, 29]
@[go_sem] theorem r_ingotref22_Encode_3_u : Gr X K s r_ingotref22_Encode_3 r_ingotref22_Encode_3_o [1, 4, 5, 29] := go_region _ _
@[go_sem] def r_ingotref22_Encode_4_o : Ops := [
oo 32 (.fieldA 0 (.t 1)), oo 33 (.load none (.t 32)), oo 34 (.mv (.t 5)), oo 35 (.idxA 3 (.t 33) (.t 34)), oo 36 (.fieldA 0 (.t 35)), oo 37 (.load none (.t 36)), oo 38 (.call false n_ingotref22_in [(.t 37)]), oo 39 (.mv (.t 38)), og 40 39 true (.fieldA 0 (.t 1)), og 41 39 true (.load none (.t 40)), og 42 39 true (.mv (.t 5)), og 43 39 true (.idxA 3 (.t 41) (.t 42)), og 44 39 true (.fieldA 1 (.t 43)), og 45 39 true (.load none (.t 44)), og 46 39 true (.call false n_ingotref22_in [(.t 45)]), oo 47 (.pick (.t 39) (.t 46) (.c (.bool false))), oo 48 (.mv (.t 47)), og 49 48 true (.fieldA 0 (.t 1)), og 50 48 true (.load none (.t 49)), og 51 48 true (.mv (.t 5)), og 52 48 true (.idxA 3 (.t 50) (.t 51)), og 53 48 true (.fieldA 2 (.t 52)), og 54 48 true (.load none (.t 53)), og 55 48 true (.call false n_ingotref22_in [(.t 54)]), oo 56 (.pick (.t 48) (.t 55) (.c (.bool false))), oo 4 (.asg (.t 56))]
def r_ingotref22_Encode_4 := rg r_ingotref22_Encode_4_o [1, 4, 5]
@[go_sem] theorem r_ingotref22_Encode_4_u : Gr X K s r_ingotref22_Encode_4 r_ingotref22_Encode_4_o [1, 4, 5] := go_region _ _
@[go_sem] def r_ingotref22_Encode_5_o : Ops := [
oo 30 (.mv (.t 5)), oo 31 (.bin .add (.t 30) (ci 1)), oo 5 (.asg (.t 31))]
def r_ingotref22_Encode_5 := rg r_ingotref22_Encode_5_o [1, 4, 5]
@[go_sem] theorem r_ingotref22_Encode_5_u : Gr X K s r_ingotref22_Encode_5 r_ingotref22_Encode_5_o [1, 4, 5] := go_region _ _
def b_ingotref22_Encode_6 : ICode := (.seq (.seq r_ingotref22_Encode_3 (.cond (.t 29) .skip (.exit 0))) (.seq (.block 1 r_ingotref22_Encode_4) r_ingotref22_Encode_5))
@[go_sem] theorem b_ingotref22_Encode_6_u : Gn X K s b_ingotref22_Encode_6 (.seq (.seq r_ingotref22_Encode_3 (.cond (.t 29) .skip (.exit 0))) (.seq (.block 1 r_ingotref22_Encode_4) r_ingotref22_Encode_5)) := rfl
@[go_sem] def r_ingotref22_Encode_7_o : Ops := [
oo 6 (.asg (ci 0))]
def r_ingotref22_Encode_7 := rg r_ingotref22_Encode_7_o [1, 4, 6]
@[go_sem] theorem r_ingotref22_Encode_7_u : Gr X K s r_ingotref22_Encode_7 r_ingotref22_Encode_7_o [1, 4, 6] := go_region _ _
@[go_sem] def r_ingotref22_Encode_8_o : Ops := [
oo 57 (.mv (.t 6)), oo 58 (.fieldA 1 (.t 1)), oo 59 (.load none (.t 58)), oo 60 (.len false (.t 59)), oo 61 (.bin .lss (.t 57) (.t 60)), oo 62 (.mv (.t 61)), og 63 62 true (.mv (.t 4)), oo 64 (.pick (.t 62) (.t 63) (.c (.bool false)))]
def r_ingotref22_Encode_8 := rg r_ingotref22_Encode_8_o [1, 4, 6, 64]
@[go_sem] theorem r_ingotref22_Encode_8_u : Gr X K s r_ingotref22_Encode_8 r_ingotref22_Encode_8_o [1, 4, 6, 64] := go_region _ _
@[go_sem] def r_ingotref22_Encode_9_o : Ops := [
oo 67 (.fieldA 1 (.t 1)), oo 68 (.load none (.t 67)), oo 69 (.mv (.t 6)), oo 70 (.idxA 2 (.t 68) (.t 69)), oo 71 (.fieldA 0 (.t 70)), oo 72 (.load none (.t 71)), oo 73 (.call false n_ingotref22_in [(.t 72)]), oo 74 (.mv (.t 73)), og 75 74 true (.fieldA 1 (.t 1)), og 76 74 true (.load none (.t 75)), og 77 74 true (.mv (.t 6)), og 78 74 true (.idxA 2 (.t 76) (.t 77)), og 79 74 true (.fieldA 1 (.t 78)), og 80 74 true (.load none (.t 79)), og 81 74 true (.call false n_ingotref22_in [(.t 80)]), oo 82 (.pick (.t 74) (.t 81) (.c (.bool false))), oo 4 (.asg (.t 82))]
def r_ingotref22_Encode_9 := rg r_ingotref22_Encode_9_o [1, 4, 6]
@[go_sem] theorem r_ingotref22_Encode_9_u : Gr X K s r_ingotref22_Encode_9 r_ingotref22_Encode_9_o [1, 4, 6] := go_region _ _
@[go_sem] def r_ingotref22_Encode_10_o : Ops := [
oo 65 (.mv (.t 6)), oo 66 (.bin .add (.t 65) (ci 1)), oo 6 (.asg (.t 66))]
def r_ingotref22_Encode_10 := rg r_ingotref22_Encode_10_o [1, 4, 6]
@[go_sem] theorem r_ingotref22_Encode_10_u : Gr X K s r_ingotref22_Encode_10 r_ingotref22_Encode_10_o [1, 4, 6] := go_region _ _
def b_ingotref22_Encode_11 : ICode := (.seq (.seq r_ingotref22_Encode_8 (.cond (.t 64) .skip (.exit 2))) (.seq (.block 3 r_ingotref22_Encode_9) r_ingotref22_Encode_10))
@[go_sem] theorem b_ingotref22_Encode_11_u : Gn X K s b_ingotref22_Encode_11 (.seq (.seq r_ingotref22_Encode_8 (.cond (.t 64) .skip (.exit 2))) (.seq (.block 3 r_ingotref22_Encode_9) r_ingotref22_Encode_10)) := rfl
@[go_sem] def r_ingotref22_Encode_12_o : Ops := [
oo 83 (.mv (.t 4)), oo 84 (.un .not (.t 83))]
def r_ingotref22_Encode_12 := rg r_ingotref22_Encode_12_o [1, 84]
@[go_sem] theorem r_ingotref22_Encode_12_u : Gr X K s r_ingotref22_Encode_12 r_ingotref22_Encode_12_o [1, 84] := go_region _ _
@[go_sem] def r_ingotref22_Encode_13_o : Ops := [
oo 2 (.asg (.c .nilS)), oo 3 (.asg (ci 1))]
def r_ingotref22_Encode_13 := rg r_ingotref22_Encode_13_o [2, 3]
@[go_sem] theorem r_ingotref22_Encode_13_u : Gr X K s r_ingotref22_Encode_13 r_ingotref22_Encode_13_o [2, 3] := go_region _ _
@[go_sem] def r_ingotref22_Encode_14_o : Ops := [
oo 7 (.asg (.c .nilS))]
def r_ingotref22_Encode_14 := rg r_ingotref22_Encode_14_o [1, 7]
@[go_sem] theorem r_ingotref22_Encode_14_u : Gr X K s r_ingotref22_Encode_14 r_ingotref22_Encode_14_o [1, 7] := go_region _ _
@[go_sem] def r_ingotref22_Encode_15_o : Ops := [
oo 8 (.asg (ci 0))]
def r_ingotref22_Encode_15 := rg r_ingotref22_Encode_15_o [1, 7, 8]
@[go_sem] theorem r_ingotref22_Encode_15_u : Gr X K s r_ingotref22_Encode_15 r_ingotref22_Encode_15_o [1, 7, 8] := go_region _ _
@[go_sem] def r_ingotref22_Encode_16_o : Ops := [
oo 85 (.mv (.t 8)), oo 86 (.fieldA 0 (.t 1)), oo 87 (.load none (.t 86)), oo 88 (.len false (.t 87)), oo 89 (.bin .lss (.t 85) (.t 88))]
def r_ingotref22_Encode_16 := rg r_ingotref22_Encode_16_o [1, 7, 8, 89]
@[go_sem] theorem r_ingotref22_Encode_16_u : Gr X K s r_ingotref22_Encode_16 r_ingotref22_Encode_16_o [1, 7, 8, 89] := go_region _ _
@[go_sem] def r_ingotref22_Encode_17_o : Ops := [
oo 92 (.fieldA 0 (.t 1)), oo 93 (.load none (.t 92)), oo 94 (.mv (.t 8)), oo 95 (.idxA 3 (.t 93) (.t 94)), oo 96 (.load (some 3) (.t 95)), oo 9 (.alloc [(.int .i64 0), (.int .i64 0), (.int .i64 0)]), ow (.store 3 (.t 9) (.t 96))]
def r_ingotref22_Encode_17 := rg r_ingotref22_Encode_17_o [1, 7, 8, 9]
@[go_sem] theorem r_ingotref22_Encode_17_u : Gr X K s r_ingotref22_Encode_17 r_ingotref22_Encode_17_o [1, 7, 8, 9] := go_region _ _
@[go_sem] def r_ingotref22_Encode_18_o : Ops := [
oo 97 (.mv (.t 7)), oo 98 (.fieldA 0 (.t 9)), oo 99 (.load none (.t 98)), oo 100 (.cvInt .u64 (.t 99)), oo 101 (.callg true n_ingotref3_PutUint [(.c .nilS), (ci 1), (.t 100)] 0), oo 102 (.fieldA 1 (.t 9)), oo 103 (.load none (.t 102)), oo 104 (.cvInt .u64 (.t 103)), oo 105 (.callg true n_ingotref3_PutUint [(.t 101), (ci 2), (.t 104)] 0), oo 106 (.fieldA 2 (.t 9)), oo 107 (.load none (.t 106)), oo 108 (.cvInt .u64 (.t 107)), oo 109 (.callg false n_ingotref3_PutUint [(.t 105), (ci 3), (.t 108)] 0), oo 110 (.callg true n_ingotref3_PutBytes [(.t 97), (ci 1), (.t 109)] 0), oo 7 (.asg (.t 110))]
def r_ingotref22_Encode_18_n : List (Nat × Nat) := [(0, 1), (0, 2), (0, 3), (0, 4), (0, 5), (1, 5), (2, 5), (3, 5), (4, 5), (0, 6), (1, 6), (2, 6), (3, 6), (4, 6), (0, 7), (1, 7), (2, 7), (3, 7), (4, 7), (0, 8), (0, 9), (1, 9), (2, 9), (3, 9), (4, 9), (5, 9), (6, 9), (7, 9), (8, 9), (0, 10), (1, 10), (2, 10), (3, 10), (4, 10), (5, 10), (6, 10), (7, 10), (8, 10), (0, 11), (1, 11), (2, 11), (3, 11), (4, 11), (5, 11), (6, 11), (7, 11), (8, 11), (0, 12)]
def r_ingotref22_Encode_18 : ICode := .region r_ingotref22_Encode_18_o r_ingotref22_Encode_18_n [1, 7, 8]
@[go_sem] theorem r_ingotref22_Encode_18_u : go X (.c r_ingotref22_Encode_18 :: K) s = goRU X [] r_ingotref22_Encode_18_n r_ingotref22_Encode_18_o [1, 7, 8] K s := go_regionU' _ _ _ _
@[go_sem] def r_ingotref22_Encode_19_o : Ops := [
oo 90 (.mv (.t 8)), oo 91 (.bin .add (.t 90) (ci 1)), oo 8 (.asg (.t 91))]
def r_ingotref22_Encode_19 := rg r_ingotref22_Encode_19_o [1, 7, 8]
@[go_sem] theorem r_ingotref22_Encode_19_u : Gr X K s r_ingotref22_Encode_19 r_ingotref22_Encode_19_o [1, 7, 8] := go_region _ _
def b_ingotref22_Encode_20 : ICode := (.seq (.seq r_ingotref22_Encode_16 (.cond (.t 89) .skip (.exit 4))) (.seq (.block 5 (.seq (.seq (.free 9) r_ingotref22_Encode_17) r_ingotref22_Encode_18)) r_ingotref22_Encode_19))
@[go_sem] theorem b_ingotref22_Encode_20_u : Gn X K s b_ingotref22_Encode_20 (.seq (.seq r_ingotref22_Encode_16 (.cond (.t 89) .skip (.exit 4))) (.seq (.block 5 (.seq (.seq (.free 9) r_ingotref22_Encode_17) r_ingotref22_Encode_18)) r_ingotref22_Encode_19)) := rfl
@[go_sem] def r_ingotref22_Encode_21_o : Ops := [
oo 10 (.asg (ci 0))]
def r_ingotref22_Encode_21 := rg r_ingotref22_Encode_21_o [1, 7, 10]
@[go_sem] theorem r_ingotref22_Encode_21_u : Gr X K s r_ingotref22_Encode_21 r_ingotref22_Encode_21_o [1, 7, 10] := go_region _ _
@[go_sem] def r_ingotref22_Encode_22_o : Ops := [
oo 111 (.mv (.t 10)), oo 112 (.fieldA 1 (.t 1)), oo 113 (.load none (.t 112)), oo 114 (.len false (.t 113)), oo 115 (.bin .lss (.t 111) (.t 114))]
def r_ingotref22_Encode_22 := rg r_ingotref22_Encode_22_o [1, 7, 10, 115]
@[go_sem] theorem r_ingotref22_Encode_22_u : Gr X K s r_ingotref22_Encode_22 r_ingotref22_Encode_22_o [1, 7, 10, 115] := go_region _ _
@[go_sem] def r_ingotref22_Encode_23_o : Ops := [
oo 118 (.fieldA 1 (.t 1)), oo 119 (.load none (.t 118)), oo 120 (.mv (.t 10)), oo 121 (.idxA 2 (.t 119) (.t 120)), oo 122 (.fieldA 0 (.t 121)), oo 123 (.load none (.t 122)), oo 124 (.cvInt .u64 (.t 123)), oo 125 (.callg true n_ingotref3_PutUint [(.c .nilS), (ci 1), (.t 124)] 0), oo 11 (.asg (.t 125))]
def r_ingotref22_Encode_23 := rg r_ingotref22_Encode_23_o [1, 7, 10, 11]
@[go_sem] theorem r_ingotref22_Encode_23_u : Gr X K s r_ingotref22_Encode_23 r_ingotref22_Encode_23_o [1, 7, 10, 11] := go_region _ _
@[go_sem] def r_ingotref22_Encode_24_o : Ops := [
oo 126 (.fieldA 1 (.t 1)), oo 127 (.load none (.t 126)), oo 128 (.mv (.t 10)), oo 129 (.idxA 2 (.t 127) (.t 128)), oo 130 (.fieldA 1 (.t 129)), oo 131 (.load none (.t 130)), oo 132 (.bin .neq (.t 131) (ci 0))]
def r_ingotref22_Encode_24 := rg r_ingotref22_Encode_24_o [1, 7, 10, 11, 132]
@[go_sem] theorem r_ingotref22_Encode_24_u : Gr X K s r_ingotref22_Encode_24 r_ingotref22_Encode_24_o [1, 7, 10, 11, 132] := go_region _ _
@[go_sem] def r_ingotref22_Encode_25_o : Ops := [
oo 133 (.mv (.t 11)), oo 134 (.fieldA 1 (.t 1)), oo 135 (.load none (.t 134)), oo 136 (.mv (.t 10)), oo 137 (.idxA 2 (.t 135) (.t 136)), oo 138 (.fieldA 1 (.t 137)), oo 139 (.load none (.t 138)), oo 140 (.cvInt .u64 (.t 139)), oo 141 (.callg true n_ingotref3_PutUint [(.t 133), (ci 2), (.t 140)] 0), oo 11 (.asg (.t 141))]
def r_ingotref22_Encode_25 := rg r_ingotref22_Encode_25_o [1, 7, 10, 11]
@[go_sem] theorem r_ingotref22_Encode_25_u : Gr X K s r_ingotref22_Encode_25 r_ingotref22_Encode_25_o [1, 7, 10, 11] := go_region _ _
@[go_sem] def r_ingotref22_Encode_26_o : Ops := [
oo 142 (.mv (.t 7)), oo 143 (.mv (.t 11)), oo 144 (.callg true n_ingotref3_PutBytes [(.t 142), (ci 2), (.t 143)] 0), oo 7 (.asg (.t 144))]
def r_ingotref22_Encode_26 := rg r_ingotref22_Encode_26_o [1, 7, 10]
@[go_sem] theorem r_ingotref22_Encode_26_u : Gr X K s r_ingotref22_Encode_26 r_ingotref22_Encode_26_o [1, 7, 10] := go_region _ _
@[go_sem] def r_ingotref22_Encode_27_o : Ops := [
oo 116 (.mv (.t 10)), oo 117 (.bin .add (.t 116) (ci 1)), oo 10 (.asg (.t 117))]
def r_ingotref22_Encode_27 := rg r_ingotref22_Encode_27_o [1, 7, 10]
@[go_sem] theorem r_ingotref22_Encode_27_u : Gr X K s r_ingotref22_Encode_27 r_ingotref22_Encode_27_o [1, 7, 10] := go_region _ _
def b_ingotref22_Encode_28 : ICode := (.seq (.seq r_ingotref22_Encode_22 (.cond (.t 115) .skip (.exit 6))) (.seq (.block 7 (.seq r_ingotref22_Encode_23 (.seq (.seq r_ingotref22_Encode_24 (.cond (.t 132) r_ingotref22_Encode_25 .skip)) r_ingotref22_Encode_26))) r_ingotref22_Encode_27))
@[go_sem] theorem b_ingotref22_Encode_28_u : Gn X K s b_ingotref22_Encode_28 (.seq (.seq r_ingotref22_Encode_22 (.cond (.t 115) .skip (.exit 6))) (.seq (.block 7 (.seq r_ingotref22_Encode_23 (.seq (.seq r_ingotref22_Encode_24 (.cond (.t 132) r_ingotref22_Encode_25 .skip)) r_ingotref22_Encode_26))) r_ingotref22_Encode_27)) := rfl
@[go_sem] def r_ingotref22_Encode_29_o : Ops := [
oo 145 (.mv (.t 7)), oo 146 (.lit true 1 3 (.int .u8 0) [(0, (.c (.int .u8 85))), (1, (.c (.int .u8 84))), (2, (.c (.int .u8 67)))]), oo 147 (.cvB false (.t 146)), oo 148 (.callg true n_ingotref3_PutBytes [(.t 145), (ci 3), (.t 147)] 0), oo 7 (.asg (.t 148))]
def r_ingotref22_Encode_29 := rg r_ingotref22_Encode_29_o [7]
@[go_sem] theorem r_ingotref22_Encode_29_u : Gr X K s r_ingotref22_Encode_29 r_ingotref22_Encode_29_o [7] := go_region _ _
@[go_sem] def r_ingotref22_Encode_30_o : Ops := [
oo 149 (.mv (.t 7)), oo 150 (.len false (.t 149)), oo 151 (.bin .gtr (.t 150) (ci 65536))]
def r_ingotref22_Encode_30 := rg r_ingotref22_Encode_30_o [7, 151]
@[go_sem] theorem r_ingotref22_Encode_30_u : Gr X K s r_ingotref22_Encode_30 r_ingotref22_Encode_30_o [7, 151] := go_region _ _
@[go_sem] def r_ingotref22_Encode_31_o : Ops := [
oo 2 (.asg (.c .nilS)), oo 3 (.asg (ci 4))]
def r_ingotref22_Encode_31 := rg r_ingotref22_Encode_31_o [2, 3]
@[go_sem] theorem r_ingotref22_Encode_31_u : Gr X K s r_ingotref22_Encode_31 r_ingotref22_Encode_31_o [2, 3] := go_region _ _
@[go_sem] def r_ingotref22_Encode_32_o : Ops := [
oo 152 (.mv (.t 7)), oo 2 (.asg (.t 152)), oo 3 (.asg (ci 0))]
def r_ingotref22_Encode_32 := rg r_ingotref22_Encode_32_o [2, 3]
@[go_sem] theorem r_ingotref22_Encode_32_u : Gr X K s r_ingotref22_Encode_32 r_ingotref22_Encode_32_o [2, 3] := go_region _ _
def c_ingotref22_Encode : ICode := (.seq r_ingotref22_Encode_0 (.seq r_ingotref22_Encode_1 (.seq (.seq r_ingotref22_Encode_2 (.block 0 (.loop b_ingotref22_Encode_6))) (.seq (.seq r_ingotref22_Encode_7 (.block 2 (.loop b_ingotref22_Encode_11))) (.seq r_ingotref22_Encode_12 (.cond (.t 84) (.seq r_ingotref22_Encode_13 .ret) (.seq r_ingotref22_Encode_14 (.seq (.seq r_ingotref22_Encode_15 (.block 4 (.loop b_ingotref22_Encode_20))) (.seq (.seq r_ingotref22_Encode_21 (.block 6 (.loop b_ingotref22_Encode_28))) (.seq r_ingotref22_Encode_29 (.seq r_ingotref22_Encode_30 (.cond (.t 151) (.seq r_ingotref22_Encode_31 .ret) (.seq r_ingotref22_Encode_32 .ret)))))))))))))
def i_ingotref22_Encode : IFunc := ⟨1, [.t 2, .t 3], c_ingotref22_Encode⟩
def a_ingotref22_Encode : Advice := ⟨[101, 105, 110, 125, 141, 144, 146, 148], [(28, [2, 3]), (27, [2, 3]), (26, [7, 151]), (25, [7]), (20, [1, 7, 10]), (24, [1, 7, 10]), (23, [1, 7, 10, 11]), (22, [1, 7, 10, 11, 132]), (21, [1, 7, 10, 11]), (19, [1, 7, 10, 115]), (18, [1, 7, 10]), (15, [1, 7, 8]), (17, [1, 7, 8]), (16, [1, 7, 8, 9]), (14, [1, 7, 8, 89]), (13, [1, 7, 8]), (12, [1, 7]), (11, [2, 3]), (10, [1, 84]), (8, [1, 4, 6]), (9, [1, 4, 6]), (7, [1, 4, 6, 64]), (6, [1, 4, 6]), (4, [1, 4, 5]), (5, [1, 4, 5]), (3, [1, 4, 5, 29]), (2, [1, 4, 5]), (1, [1, 4]), (0, [1])], [], [(16, [9])], [(101, 0), (105, 0), (109, 0), (110, 0), (125, 0), (141, 0), (144, 0), (148, 0)], []⟩
/-! ingot/ingotlaw22.PlaceBack -/
@[go_sem] def r_ingotlaw22_PlaceBack_0_o : Ops := [
oo 1 (.box 2 (.t 0)), oo 2 (.asg (.c (.bool false)))]
def r_ingotlaw22_PlaceBack_0 := rg r_ingotlaw22_PlaceBack_0_o [1]
@[go_sem] theorem r_ingotlaw22_PlaceBack_0_u : Gr X K s r_ingotlaw22_PlaceBack_0 r_ingotlaw22_PlaceBack_0_o [1] := go_region _ _
@[go_sem] def r_ingotlaw22_PlaceBack_1_o : Ops := [
oo 9 (.call false n_ingotlaw22_known []), oo 10 (.un .not (.t 9))]
def r_ingotlaw22_PlaceBack_1 := rg r_ingotlaw22_PlaceBack_1_o [1, 10]
@[go_sem] theorem r_ingotlaw22_PlaceBack_1_u : Gr X K s r_ingotlaw22_PlaceBack_1 r_ingotlaw22_PlaceBack_1_o [1, 10] := go_region _ _
@[go_sem] def r_ingotlaw22_PlaceBack_2_o : Ops := [
oo 2 (.asg (.c (.bool false)))]
def r_ingotlaw22_PlaceBack_2 := rg r_ingotlaw22_PlaceBack_2_o [2]
@[go_sem] theorem r_ingotlaw22_PlaceBack_2_u : Gr X K s r_ingotlaw22_PlaceBack_2 r_ingotlaw22_PlaceBack_2_o [2] := go_region _ _
@[go_sem] def r_ingotlaw22_PlaceBack_3_o : Ops := [
oo 11 (.fieldA 0 (.t 1)), oo 12 (.load none (.t 11)), oo 13 (.len false (.t 12)), oo 14 (.bin .gtr (.t 13) (ci 820)), oo 15 (.mv (.t 14)), og 16 15 false (.fieldA 1 (.t 1)), og 17 15 false (.load none (.t 16)), og 18 15 false (.len false (.t 17)), og 19 15 false (.bin .gtr (.t 18) (ci 120)), oo 20 (.pick (.t 15) (.c (.bool true)) (.t 19))]
def r_ingotlaw22_PlaceBack_3 := rg r_ingotlaw22_PlaceBack_3_o [1, 20]
@[go_sem] theorem r_ingotlaw22_PlaceBack_3_u : Gr X K s r_ingotlaw22_PlaceBack_3 r_ingotlaw22_PlaceBack_3_o [1, 20] := go_region _ _
@[go_sem] def r_ingotlaw22_PlaceBack_4_o : Ops := [
oo 2 (.asg (.c (.bool true)))]
def r_ingotlaw22_PlaceBack_4 := rg r_ingotlaw22_PlaceBack_4_o [2]
@[go_sem] theorem r_ingotlaw22_PlaceBack_4_u : Gr X K s r_ingotlaw22_PlaceBack_4 r_ingotlaw22_PlaceBack_4_o [2] := go_region _ _
@[go_sem] def r_ingotlaw22_PlaceBack_5_o : Ops := [
oo 22 (.load (some 2) (.t 1)), oo 23 (.call false n_sfoot_Encode [(.t 22)]), oo 21 (.mv (.t 23)), oo 24 (.ext (.t 21) 0), oo 25 (.ext (.t 21) 1), oo 3 (.asg (.t 24)), oo 4 (.asg (.t 25))]
def r_ingotlaw22_PlaceBack_5 := rg r_ingotlaw22_PlaceBack_5_o [1, 3, 4]
@[go_sem] theorem r_ingotlaw22_PlaceBack_5_u : Gr X K s r_ingotlaw22_PlaceBack_5 r_ingotlaw22_PlaceBack_5_o [1, 3, 4] := go_region _ _
@[go_sem] def r_ingotlaw22_PlaceBack_6_o : Ops := [
oo 27 (.load (some 2) (.t 1)), oo 28 (.call false n_ingotlaw22_Of [(.t 27)]), oo 29 (.call false n_ingotref22_Encode [(.t 28)]), oo 26 (.mv (.t 29)), oo 30 (.ext (.t 26) 0), oo 31 (.ext (.t 26) 1), oo 5 (.asg (.t 30)), oo 6 (.asg (.t 31))]
def r_ingotlaw22_PlaceBack_6 := rg r_ingotlaw22_PlaceBack_6_o [1, 3, 4, 5, 6]
@[go_sem] theorem r_ingotlaw22_PlaceBack_6_u : Gr X K s r_ingotlaw22_PlaceBack_6 r_ingotlaw22_PlaceBack_6_o [1, 3, 4, 5, 6] := go_region _ _
@[go_sem] def r_ingotlaw22_PlaceBack_7_o : Ops := [
oo 32 (.mv (.t 3)), oo 33 (.b2s (.t 32)), oo 34 (.mv (.t 5)), oo 35 (.b2s (.t 34)), oo 36 (.bin .neq (.t 33) (.t 35)), oo 37 (.mv (.t 36)), og 38 37 false (.mv (.t 4)), og 39 37 false (.mv (.t 6)), og 40 37 false (.bin .neq (.t 38) (.t 39)), oo 41 (.pick (.t 37) (.c (.bool true)) (.t 40))]
def r_ingotlaw22_PlaceBack_7 := rg r_ingotlaw22_PlaceBack_7_o [1, 3, 6, 41]
@[go_sem] theorem r_ingotlaw22_PlaceBack_7_u : Gr X K s r_ingotlaw22_PlaceBack_7 r_ingotlaw22_PlaceBack_7_o [1, 3, 6, 41] := go_region _ _
@[go_sem] def r_ingotlaw22_PlaceBack_8_o : Ops := [
oo 2 (.asg (.c (.bool false)))]
def r_ingotlaw22_PlaceBack_8 := rg r_ingotlaw22_PlaceBack_8_o [2]
@[go_sem] theorem r_ingotlaw22_PlaceBack_8_u : Gr X K s r_ingotlaw22_PlaceBack_8 r_ingotlaw22_PlaceBack_8_o [2] := go_region _ _
@[go_sem] def r_ingotlaw22_PlaceBack_9_o : Ops := [
oo 42 (.mv (.t 6)), oo 43 (.bin .neq (.t 42) (ci 0))]
def r_ingotlaw22_PlaceBack_9 := rg r_ingotlaw22_PlaceBack_9_o [1, 3, 43]
@[go_sem] theorem r_ingotlaw22_PlaceBack_9_u : Gr X K s r_ingotlaw22_PlaceBack_9 r_ingotlaw22_PlaceBack_9_o [1, 3, 43] := go_region _ _
@[go_sem] def r_ingotlaw22_PlaceBack_10_o : Ops := [
oo 44 (.mv (.t 3)), oo 45 (.len false (.t 44)), oo 46 (.bin .eql (.t 45) (ci 0)), oo 2 (.asg (.t 46))]
def r_ingotlaw22_PlaceBack_10 := rg r_ingotlaw22_PlaceBack_10_o [2]
@[go_sem] theorem r_ingotlaw22_PlaceBack_10_u : Gr X K s r_ingotlaw22_PlaceBack_10 r_ingotlaw22_PlaceBack_10_o [2] := go_region _ _
@[go_sem] def r_ingotlaw22_PlaceBack_11_o : Ops := [
oo 48 (.mv (.t 3)), oo 49 (.call false n_sfoot_Decode [(.t 48)]), oo 47 (.mv (.t 49)), oo 50 (.ext (.t 47) 0), oo 51 (.ext (.t 47) 1), oo 7 (.alloc [.nilS, .nilS]), ow (.store 2 (.t 7) (.t 50)), oo 8 (.asg (.t 51))]
def r_ingotlaw22_PlaceBack_11 := rg r_ingotlaw22_PlaceBack_11_o [1, 7, 8]
@[go_sem] theorem r_ingotlaw22_PlaceBack_11_u : Gr X K s r_ingotlaw22_PlaceBack_11 r_ingotlaw22_PlaceBack_11_o [1, 7, 8] := go_region _ _
@[go_sem] def r_ingotlaw22_PlaceBack_12_o : Ops := [
oo 52 (.mv (.t 8)), oo 53 (.bin .eql (.t 52) (ci 0)), oo 54 (.mv (.t 53)), og 55 54 true (.load (some 2) (.t 7)), og 56 54 true (.call false n_ingotlaw22_Of [(.t 55)]), og 57 54 true (.load (some 2) (.t 1)), og 58 54 true (.call false n_ingotlaw22_Of [(.t 57)]), og 59 54 true (.call false n_ingotlaw22_same [(.t 56), (.t 58)]), oo 60 (.pick (.t 54) (.t 59) (.c (.bool false))), oo 2 (.asg (.t 60))]
def r_ingotlaw22_PlaceBack_12_n : List (Nat × Nat) := [(3, 5), (4, 5)]
def r_ingotlaw22_PlaceBack_12 : ICode := .region r_ingotlaw22_PlaceBack_12_o r_ingotlaw22_PlaceBack_12_n [2]
@[go_sem] theorem r_ingotlaw22_PlaceBack_12_u : go X (.c r_ingotlaw22_PlaceBack_12 :: K) s = goRU X [] r_ingotlaw22_PlaceBack_12_n r_ingotlaw22_PlaceBack_12_o [2] K s := go_regionU' _ _ _ _
def c_ingotlaw22_PlaceBack : ICode := (.seq r_ingotlaw22_PlaceBack_0 (.seq r_ingotlaw22_PlaceBack_1 (.cond (.t 10) (.seq r_ingotlaw22_PlaceBack_2 .ret) (.seq r_ingotlaw22_PlaceBack_3 (.cond (.t 20) (.seq r_ingotlaw22_PlaceBack_4 .ret) (.seq r_ingotlaw22_PlaceBack_5 (.seq r_ingotlaw22_PlaceBack_6 (.seq r_ingotlaw22_PlaceBack_7 (.cond (.t 41) (.seq r_ingotlaw22_PlaceBack_8 .ret) (.seq r_ingotlaw22_PlaceBack_9 (.cond (.t 43) (.seq r_ingotlaw22_PlaceBack_10 .ret) (.seq r_ingotlaw22_PlaceBack_11 (.seq r_ingotlaw22_PlaceBack_12 .ret)))))))))))))
def i_ingotlaw22_PlaceBack : IFunc := ⟨1, [.t 2], c_ingotlaw22_PlaceBack⟩
def a_ingotlaw22_PlaceBack : Advice := ⟨[], [(12, [2]), (11, [1, 7, 8]), (10, [2]), (9, [1, 3, 43]), (8, [2]), (7, [1, 3, 6, 41]), (6, [1, 3, 4, 5, 6]), (5, [1, 3, 4]), (4, [2]), (3, [1, 20]), (2, [2]), (1, [1, 10]), (0, [1])], [], [], [], []⟩
/-! ingot/ingotlaw22.same -/
@[go_sem] def r_ingotlaw22_same_0_o : Ops := [
oo 2 (.box 2 (.t 0)), oo 3 (.box 2 (.t 1)), oo 4 (.asg (.c (.bool false)))]
def r_ingotlaw22_same_0 := rg r_ingotlaw22_same_0_o [2, 3]
@[go_sem] theorem r_ingotlaw22_same_0_u : Gr X K s r_ingotlaw22_same_0 r_ingotlaw22_same_0_o [2, 3] := go_region _ _
@[go_sem] def r_ingotlaw22_same_1_o : Ops := [
oo 7 (.fieldA 0 (.t 2)), oo 8 (.load none (.t 7)), oo 9 (.len false (.t 8)), oo 10 (.fieldA 0 (.t 3)), oo 11 (.load none (.t 10)), oo 12 (.len false (.t 11)), oo 13 (.bin .neq (.t 9) (.t 12)), oo 14 (.mv (.t 13)), og 15 14 false (.fieldA 1 (.t 2)), og 16 14 false (.load none (.t 15)), og 17 14 false (.len false (.t 16)), og 18 14 false (.fieldA 1 (.t 3)), og 19 14 false (.load none (.t 18)), og 20 14 false (.len false (.t 19)), og 21 14 false (.bin .neq (.t 17) (.t 20)), oo 22 (.pick (.t 14) (.c (.bool true)) (.t 21))]
def r_ingotlaw22_same_1 := rg r_ingotlaw22_same_1_o [2, 3, 22]
@[go_sem] theorem r_ingotlaw22_same_1_u : Gr X K s r_ingotlaw22_same_1 r_ingotlaw22_same_1_o [2, 3, 22] := go_region _ _
@[go_sem] def r_ingotlaw22_same_2_o : Ops := [
oo 4 (.asg (.c (.bool false)))]
def r_ingotlaw22_same_2 := rg r_ingotlaw22_same_2_o [4]
@[go_sem] theorem r_ingotlaw22_same_2_u : Gr X K s r_ingotlaw22_same_2 r_ingotlaw22_same_2_o [4] := go_region _ _
@[go_sem] def r_ingotlaw22_same_3_o : Ops := [
oo 5 (.asg (ci 0))]
def r_ingotlaw22_same_3 := rg r_ingotlaw22_same_3_o [2, 3, 5]
@[go_sem] theorem r_ingotlaw22_same_3_u : Gr X K s r_ingotlaw22_same_3 r_ingotlaw22_same_3_o [2, 3, 5] := go_region _ _
@[go_sem] def r_ingotlaw22_same_4_o : Ops := [
oo 23 (.mv (.t 5)), oo 24 (.fieldA 0 (.t 2)), oo 25 (.load none (.t 24)), oo 26 (.len false (.t 25)), oo 27 (.bin .lss (.t 23) (.t 26))]
def r_ingotlaw22_same_4 := rg r_ingotlaw22_same_4_o [2, 3, 5, 27]
@[go_sem] theorem r_ingotlaw22_same_4_u : Gr X K s r_ingotlaw22_same_4 r_ingotlaw22_same_4_o [2, 3, 5, 27] := go_region _ _
@[go_sem] def r_ingotlaw22_same_5_o : Ops := [
oo 30 (.fieldA 0 (.t 2)), oo 31 (.load none (.t 30)), oo 32 (.mv (.t 5)), oo 33 (.idxA 3 (.t 31) (.t 32)), oo 34 (.load (some 3) (.t 33)), oo 35 (.fieldA 0 (.t 3)), oo 36 (.load none (.t 35)), oo 37 (.mv (.t 5)), oo 38 (.idxA 3 (.t 36) (.t 37)), oo 39 (.load (some 3) (.t 38)), oo 40 (.eqn true (.agg [0, 0, 0]) (.t 34) (.t 39))]
def r_ingotlaw22_same_5_n : List (Nat × Nat) := [(0, 2), (1, 2), (0, 5), (1, 5), (2, 5), (3, 5), (4, 5), (0, 6), (1, 6), (2, 6), (3, 6), (4, 6), (0, 7), (1, 7), (2, 7), (3, 7), (4, 7), (5, 7), (6, 7), (0, 8), (1, 8), (2, 8), (3, 8), (4, 8), (0, 9), (1, 9), (2, 9), (3, 9), (4, 9)]
def r_ingotlaw22_same_5 : ICode := .region r_ingotlaw22_same_5_o r_ingotlaw22_same_5_n [2, 3, 5, 40]
@[go_sem] theorem r_ingotlaw22_same_5_u : go X (.c r_ingotlaw22_same_5 :: K) s = goRU X [] r_ingotlaw22_same_5_n r_ingotlaw22_same_5_o [2, 3, 5, 40] K s := go_regionU' _ _ _ _
@[go_sem] def r_ingotlaw22_same_6_o : Ops := [
oo 4 (.asg (.c (.bool false)))]
def r_ingotlaw22_same_6 := rg r_ingotlaw22_same_6_o [4]
@[go_sem] theorem r_ingotlaw22_same_6_u : Gr X K s r_ingotlaw22_same_6 r_ingotlaw22_same_6_o [4] := go_region _ _
@[go_sem] def r_ingotlaw22_same_7_o : Ops := [
oo 28 (.mv (.t 5)), oo 29 (.bin .add (.t 28) (ci 1)), oo 5 (.asg (.t 29))]
def r_ingotlaw22_same_7 := rg r_ingotlaw22_same_7_o [2, 3, 5]
@[go_sem] theorem r_ingotlaw22_same_7_u : Gr X K s r_ingotlaw22_same_7 r_ingotlaw22_same_7_o [2, 3, 5] := go_region _ _
def b_ingotlaw22_same_8 : ICode := (.seq (.seq r_ingotlaw22_same_4 (.cond (.t 27) .skip (.exit 0))) (.seq (.block 1 (.seq r_ingotlaw22_same_5 (.cond (.t 40) (.seq r_ingotlaw22_same_6 .ret) .skip))) r_ingotlaw22_same_7))
@[go_sem] theorem b_ingotlaw22_same_8_u : Gn X K s b_ingotlaw22_same_8 (.seq (.seq r_ingotlaw22_same_4 (.cond (.t 27) .skip (.exit 0))) (.seq (.block 1 (.seq r_ingotlaw22_same_5 (.cond (.t 40) (.seq r_ingotlaw22_same_6 .ret) .skip))) r_ingotlaw22_same_7)) := rfl
@[go_sem] def r_ingotlaw22_same_9_o : Ops := [
oo 6 (.asg (ci 0))]
def r_ingotlaw22_same_9 := rg r_ingotlaw22_same_9_o [2, 3, 6]
@[go_sem] theorem r_ingotlaw22_same_9_u : Gr X K s r_ingotlaw22_same_9 r_ingotlaw22_same_9_o [2, 3, 6] := go_region _ _
@[go_sem] def r_ingotlaw22_same_10_o : Ops := [
oo 41 (.mv (.t 6)), oo 42 (.fieldA 1 (.t 2)), oo 43 (.load none (.t 42)), oo 44 (.len false (.t 43)), oo 45 (.bin .lss (.t 41) (.t 44))]
def r_ingotlaw22_same_10 := rg r_ingotlaw22_same_10_o [2, 3, 6, 45]
@[go_sem] theorem r_ingotlaw22_same_10_u : Gr X K s r_ingotlaw22_same_10 r_ingotlaw22_same_10_o [2, 3, 6, 45] := go_region _ _
@[go_sem] def r_ingotlaw22_same_11_o : Ops := [
oo 48 (.fieldA 1 (.t 2)), oo 49 (.load none (.t 48)), oo 50 (.mv (.t 6)), oo 51 (.idxA 2 (.t 49) (.t 50)), oo 52 (.load (some 2) (.t 51)), oo 53 (.fieldA 1 (.t 3)), oo 54 (.load none (.t 53)), oo 55 (.mv (.t 6)), oo 56 (.idxA 2 (.t 54) (.t 55)), oo 57 (.load (some 2) (.t 56)), oo 58 (.eqn true (.agg [0, 0]) (.t 52) (.t 57))]
def r_ingotlaw22_same_11_n : List (Nat × Nat) := [(0, 2), (1, 2), (0, 5), (1, 5), (2, 5), (3, 5), (4, 5), (0, 6), (1, 6), (2, 6), (3, 6), (4, 6), (0, 7), (1, 7), (2, 7), (3, 7), (4, 7), (5, 7), (6, 7), (0, 8), (1, 8), (2, 8), (3, 8), (4, 8), (0, 9), (1, 9), (2, 9), (3, 9), (4, 9)]
def r_ingotlaw22_same_11 : ICode := .region r_ingotlaw22_same_11_o r_ingotlaw22_same_11_n [2, 3, 6, 58]
@[go_sem] theorem r_ingotlaw22_same_11_u : go X (.c r_ingotlaw22_same_11 :: K) s = goRU X [] r_ingotlaw22_same_11_n r_ingotlaw22_same_11_o [2, 3, 6, 58] K s := go_regionU' _ _ _ _
@[go_sem] def r_ingotlaw22_same_12_o : Ops := [
oo 4 (.asg (.c (.bool false)))]
def r_ingotlaw22_same_12 := rg r_ingotlaw22_same_12_o [4]
@[go_sem] theorem r_ingotlaw22_same_12_u : Gr X K s r_ingotlaw22_same_12 r_ingotlaw22_same_12_o [4] := go_region _ _
@[go_sem] def r_ingotlaw22_same_13_o : Ops := [
oo 46 (.mv (.t 6)), oo 47 (.bin .add (.t 46) (ci 1)), oo 6 (.asg (.t 47))]
def r_ingotlaw22_same_13 := rg r_ingotlaw22_same_13_o [2, 3, 6]
@[go_sem] theorem r_ingotlaw22_same_13_u : Gr X K s r_ingotlaw22_same_13 r_ingotlaw22_same_13_o [2, 3, 6] := go_region _ _
def b_ingotlaw22_same_14 : ICode := (.seq (.seq r_ingotlaw22_same_10 (.cond (.t 45) .skip (.exit 2))) (.seq (.block 3 (.seq r_ingotlaw22_same_11 (.cond (.t 58) (.seq r_ingotlaw22_same_12 .ret) .skip))) r_ingotlaw22_same_13))
@[go_sem] theorem b_ingotlaw22_same_14_u : Gn X K s b_ingotlaw22_same_14 (.seq (.seq r_ingotlaw22_same_10 (.cond (.t 45) .skip (.exit 2))) (.seq (.block 3 (.seq r_ingotlaw22_same_11 (.cond (.t 58) (.seq r_ingotlaw22_same_12 .ret) .skip))) r_ingotlaw22_same_13)) := rfl
@[go_sem] def r_ingotlaw22_same_15_o : Ops := [
oo 4 (.asg (.c (.bool true)))]
def r_ingotlaw22_same_15 := rg r_ingotlaw22_same_15_o [4]
@[go_sem] theorem r_ingotlaw22_same_15_u : Gr X K s r_ingotlaw22_same_15 r_ingotlaw22_same_15_o [4] := go_region _ _
def c_ingotlaw22_same : ICode := (.seq r_ingotlaw22_same_0 (.seq r_ingotlaw22_same_1 (.cond (.t 22) (.seq r_ingotlaw22_same_2 .ret) (.seq (.seq r_ingotlaw22_same_3 (.block 0 (.loop b_ingotlaw22_same_8))) (.seq (.seq r_ingotlaw22_same_9 (.block 2 (.loop b_ingotlaw22_same_14))) (.seq r_ingotlaw22_same_15 .ret))))))
def i_ingotlaw22_same : IFunc := ⟨2, [.t 4], c_ingotlaw22_same⟩
def a_ingotlaw22_same : Advice := ⟨[], [(13, [4]), (10, [2, 3, 6]), (12, [4]), (11, [2, 3, 6, 58]), (9, [2, 3, 6, 45]), (8, [2, 3, 6]), (5, [2, 3, 5]), (7, [4]), (6, [2, 3, 5, 40]), (4, [2, 3, 5, 27]), (3, [2, 3, 5]), (2, [4]), (1, [2, 3, 22]), (0, [2, 3])], [], [], [], []⟩
/-! ingot/ingotlaw22.Of -/
@[go_sem] def r_ingotlaw22_Of_0_o : Ops := [
oo 1 (.box 2 (.t 0)), oo 2 (.alloc [.nilS, .nilS])]
def r_ingotlaw22_Of_0 := rg r_ingotlaw22_Of_0_o [1, 2]
@[go_sem] theorem r_ingotlaw22_Of_0_u : Gr X K s r_ingotlaw22_Of_0 r_ingotlaw22_Of_0_o [1, 2] := go_region _ _
@[go_sem] def r_ingotlaw22_Of_1_o : Ops := [
oo 3 (.alloc [.nilS, .nilS])]
def r_ingotlaw22_Of_1 := rg r_ingotlaw22_Of_1_o [1, 2, 3]
@[go_sem] theorem r_ingotlaw22_Of_1_u : Gr X K s r_ingotlaw22_Of_1 r_ingotlaw22_Of_1_o [1, 2, 3] := go_region _ _
@[go_sem] def r_ingotlaw22_Of_2_o : Ops := [
oo 4 (.asg (ci 0))]
def r_ingotlaw22_Of_2 := rg r_ingotlaw22_Of_2_o [1, 2, 3, 4]
@[go_sem] theorem r_ingotlaw22_Of_2_u : Gr X K s r_ingotlaw22_Of_2 r_ingotlaw22_Of_2_o [1, 2, 3, 4] := go_region _ _
@[go_sem] def r_ingotlaw22_Of_3_o : Ops := [
oo 6 (.mv (.t 4)), oo 7 (.fieldA 0 (.t 1)), oo 8 (.load none (.t 7)), oo 9 (.len false (.t 8)), oo 10 (.bin .lss (.t 6) (.t 9))]
def r_ingotlaw22_Of_3 := rg r_ingotlaw22_Of_3_o [1, 2, 3, 4, 10]
@[go_sem] theorem r_ingotlaw22_Of_3_u : Gr X K s r_ingotlaw22_Of_3 r_ingotlaw22_Of_3_o [1, 2, 3, 4, 10] := go_region _ _
@[go_sem] def r_ingotlaw22_Of_4_o : Ops := [
oo 13 (.fieldA 0 (.t 3)), oo 14 (.load none (.t 13)), oo 15 (.fieldA 0 (.t 1)), oo 16 (.load none (.t 15)), oo 17 (.mv (.t 4)), oo 18 (.idxA 3 (.t 16) (.t 17)), oo 19 (.fieldA 0 (.t 18)), oo 20 (.load none (.t 19)), oo 21 (.fieldA 0 (.t 1)), oo 22 (.load none (.t 21)), oo 23 (.mv (.t 4)), oo 24 (.idxA 3 (.t 22) (.t 23)), oo 25 (.fieldA 1 (.t 24)), oo 26 (.load none (.t 25)), oo 27 (.fieldA 0 (.t 1)), oo 28 (.load none (.t 27)), oo 29 (.mv (.t 4)), oo 30 (.idxA 3 (.t 28) (.t 29)), oo 31 (.fieldA 2 (.t 30)), oo 32 (.load none (.t 31)), oo 33 (.build [(.int .i64 0), (.int .i64 0), (.int .i64 0)] [(0, 1, (.t 20)), (1, 1, (.t 26)), (2, 1, (.t 32))]), oo 34 (.lit false 3 1 (.agg [(.int .i64 0), (.int .i64 0), (.int .i64 0)]) [(0, (.t 33))]), oo 35 (.append 3 24 (.t 14) (.t 34)), oo 36 (.fieldA 0 (.t 3)), ow (.store 1 (.t 36) (.t 35))]
def r_ingotlaw22_Of_4_n : List (Nat × Nat) := [(0, 2), (1, 2), (0, 3), (1, 3), (0, 4), (1, 4), (2, 4), (3, 4), (0, 5), (1, 5), (0, 6), (1, 6), (0, 7), (1, 7), (0, 8), (1, 8), (2, 8), (3, 8), (4, 8), (5, 8), (6, 8), (7, 8), (0, 9), (1, 9), (2, 9), (3, 9), (4, 9), (5, 9), (6, 9), (7, 9), (0, 10), (1, 10), (2, 10), (3, 10), (4, 10), (5, 10), (6, 10), (7, 10), (8, 10), (9, 10), (0, 11), (1, 11), (2, 11), (3, 11), (4, 11), (5, 11), (6, 11), (7, 11), (0, 12), (1, 12), (2, 12), (3, 12), (4, 12), (5, 12), (6, 12), (7, 12), (0, 13), (1, 13), (2, 13), (3, 13), (4, 13), (5, 13), (6, 13), (7, 13), (0, 14), (1, 14), (2, 14), (3, 14), (4, 14), (5, 14), (6, 14), (7, 14), (8, 14), (9, 14), (10, 14), (11, 14), (12, 14), (13, 14), (0, 15), (1, 15), (2, 15), (3, 15), (4, 15), (5, 15), (6, 15), (7, 15), (8, 15), (9, 15), (10, 15), (11, 15), (12, 15), (13, 15), (0, 16), (1, 16), (2, 16), (3, 16), (4, 16), (5, 16), (6, 16), (7, 16), (8, 16), (9, 16), (10, 16), (11, 16), (12, 16), (13, 16), (14, 16), (15, 16), (0, 17), (1, 17), (2, 17), (3, 17), (4, 17), (5, 17), (6, 17), (7, 17), (8, 17), (9, 17), (10, 17), (11, 17), (12, 17), (13, 17), (0, 18), (1, 18), (2, 18), (3, 18), (4, 18), (5, 18), (6, 18), (7, 18), (8, 18), (9, 18), (10, 18), (11, 18), (12, 18), (13, 18), (0, 19), (1, 19), (2, 19), (3, 19), (4, 19), (5, 19), (6, 19), (7, 19), (8, 19), (9, 19), (10, 19), (11, 19), (12, 19), (13, 19), (0, 20), (1, 20), (0, 21), (1, 21)]
def r_ingotlaw22_Of_4 : ICode := .region r_ingotlaw22_Of_4_o r_ingotlaw22_Of_4_n [1, 2, 3, 4]
@[go_sem] theorem r_ingotlaw22_Of_4_u : go X (.c r_ingotlaw22_Of_4 :: K) s = goRU X [] r_ingotlaw22_Of_4_n r_ingotlaw22_Of_4_o [1, 2, 3, 4] K s := go_regionU' _ _ _ _
@[go_sem] def r_ingotlaw22_Of_5_o : Ops := [
oo 11 (.mv (.t 4)), oo 12 (.bin .add (.t 11) (ci 1)), oo 4 (.asg (.t 12))]
def r_ingotlaw22_Of_5 := rg r_ingotlaw22_Of_5_o [1, 2, 3, 4]
@[go_sem] theorem r_ingotlaw22_Of_5_u : Gr X K s r_ingotlaw22_Of_5 r_ingotlaw22_Of_5_o [1, 2, 3, 4] := go_region _ _
def b_ingotlaw22_Of_6 : ICode := (.seq (.seq r_ingotlaw22_Of_3 (.cond (.t 10) .skip (.exit 0))) (.seq (.block 1 r_ingotlaw22_Of_4) r_ingotlaw22_Of_5))
@[go_sem] theorem b_ingotlaw22_Of_6_u : Gn X K s b_ingotlaw22_Of_6 (.seq (.seq r_ingotlaw22_Of_3 (.cond (.t 10) .skip (.exit 0))) (.seq (.block 1 r_ingotlaw22_Of_4) r_ingotlaw22_Of_5)) := rfl
@[go_sem] def r_ingotlaw22_Of_7_o : Ops := [
oo 5 (.asg (ci 0))]
def r_ingotlaw22_Of_7 := rg r_ingotlaw22_Of_7_o [1, 2, 3, 5]
@[go_sem] theorem r_ingotlaw22_Of_7_u : Gr X K s r_ingotlaw22_Of_7 r_ingotlaw22_Of_7_o [1, 2, 3, 5] := go_region _ _
@[go_sem] def r_ingotlaw22_Of_8_o : Ops := [
oo 37 (.mv (.t 5)), oo 38 (.fieldA 1 (.t 1)), oo 39 (.load none (.t 38)), oo 40 (.len false (.t 39)), oo 41 (.bin .lss (.t 37) (.t 40))]
def r_ingotlaw22_Of_8 := rg r_ingotlaw22_Of_8_o [1, 2, 3, 5, 41]
@[go_sem] theorem r_ingotlaw22_Of_8_u : Gr X K s r_ingotlaw22_Of_8 r_ingotlaw22_Of_8_o [1, 2, 3, 5, 41] := go_region _ _
@[go_sem] def r_ingotlaw22_Of_9_o : Ops := [
oo 44 (.fieldA 1 (.t 3)), oo 45 (.load none (.t 44)), oo 46 (.fieldA 1 (.t 1)), oo 47 (.load none (.t 46)), oo 48 (.mv (.t 5)), oo 49 (.idxA 2 (.t 47) (.t 48)), oo 50 (.fieldA 0 (.t 49)), oo 51 (.load none (.t 50)), oo 52 (.fieldA 1 (.t 1)), oo 53 (.load none (.t 52)), oo 54 (.mv (.t 5)), oo 55 (.idxA 2 (.t 53) (.t 54)), oo 56 (.fieldA 1 (.t 55)), oo 57 (.load none (.t 56)), oo 58 (.build [(.int .i64 0), (.int .i64 0)] [(0, 1, (.t 51)), (1, 1, (.t 57))]), oo 59 (.lit false 2 1 (.agg [(.int .i64 0), (.int .i64 0)]) [(0, (.t 58))]), oo 60 (.append 2 16 (.t 45) (.t 59)), oo 61 (.fieldA 1 (.t 3)), ow (.store 1 (.t 61) (.t 60))]
def r_ingotlaw22_Of_9_n : List (Nat × Nat) := [(0, 2), (1, 2), (0, 3), (1, 3), (0, 4), (1, 4), (2, 4), (3, 4), (0, 5), (1, 5), (0, 6), (1, 6), (0, 7), (1, 7), (0, 8), (1, 8), (2, 8), (3, 8), (4, 8), (5, 8), (6, 8), (7, 8), (0, 9), (1, 9), (2, 9), (3, 9), (4, 9), (5, 9), (6, 9), (7, 9), (0, 10), (1, 10), (2, 10), (3, 10), (4, 10), (5, 10), (6, 10), (7, 10), (8, 10), (9, 10), (0, 11), (1, 11), (2, 11), (3, 11), (4, 11), (5, 11), (6, 11), (7, 11), (0, 12), (1, 12), (2, 12), (3, 12), (4, 12), (5, 12), (6, 12), (7, 12), (0, 13), (1, 13), (2, 13), (3, 13), (4, 13), (5, 13), (6, 13), (7, 13), (0, 14), (1, 14), (0, 15), (1, 15)]
def r_ingotlaw22_Of_9 : ICode := .region r_ingotlaw22_Of_9_o r_ingotlaw22_Of_9_n [1, 2, 3, 5]
@[go_sem] theorem r_ingotlaw22_Of_9_u : go X (.c r_ingotlaw22_Of_9 :: K) s = goRU X [] r_ingotlaw22_Of_9_n r_ingotlaw22_Of_9_o [1, 2, 3, 5] K s := go_regionU' _ _ _ _
@[go_sem] def r_ingotlaw22_Of_10_o : Ops := [
oo 42 (.mv (.t 5)), oo 43 (.bin .add (.t 42) (ci 1)), oo 5 (.asg (.t 43))]
def r_ingotlaw22_Of_10 := rg r_ingotlaw22_Of_10_o [1, 2, 3, 5]
@[go_sem] theorem r_ingotlaw22_Of_10_u : Gr X K s r_ingotlaw22_Of_10 r_ingotlaw22_Of_10_o [1, 2, 3, 5] := go_region _ _
def b_ingotlaw22_Of_11 : ICode := (.seq (.seq r_ingotlaw22_Of_8 (.cond (.t 41) .skip (.exit 2))) (.seq (.block 3 r_ingotlaw22_Of_9) r_ingotlaw22_Of_10))
@[go_sem] theorem b_ingotlaw22_Of_11_u : Gn X K s b_ingotlaw22_Of_11 (.seq (.seq r_ingotlaw22_Of_8 (.cond (.t 41) .skip (.exit 2))) (.seq (.block 3 r_ingotlaw22_Of_9) r_ingotlaw22_Of_10)) := rfl
@[go_sem] def r_ingotlaw22_Of_12_o : Ops := [
oo 62 (.load (some 2) (.t 3)), ow (.store 2 (.t 2) (.t 62))]
def r_ingotlaw22_Of_12 := rg r_ingotlaw22_Of_12_o [2]
@[go_sem] theorem r_ingotlaw22_Of_12_u : Gr X K s r_ingotlaw22_Of_12 r_ingotlaw22_Of_12_o [2] := go_region _ _
def c_ingotlaw22_Of : ICode := (.seq r_ingotlaw22_Of_0 (.seq r_ingotlaw22_Of_1 (.seq (.seq r_ingotlaw22_Of_2 (.block 0 (.loop b_ingotlaw22_Of_6))) (.seq (.seq r_ingotlaw22_Of_7 (.block 2 (.loop b_ingotlaw22_Of_11))) (.seq r_ingotlaw22_Of_12 .ret)))))
def i_ingotlaw22_Of : IFunc := ⟨1, [.cell 2 (some 2)], c_ingotlaw22_Of⟩
def a_ingotlaw22_Of : Advice := ⟨[35, 60], [(10, [2]), (8, [1, 2, 3, 5]), (9, [1, 2, 3, 5]), (7, [1, 2, 3, 5, 41]), (6, [1, 2, 3, 5]), (4, [1, 2, 3, 4]), (5, [1, 2, 3, 4]), (3, [1, 2, 3, 4, 10]), (2, [1, 2, 3, 4]), (1, [1, 2, 3]), (0, [1, 2])], [], [], [], []⟩
/-! ingot/ingotref3.Uint -/
@[go_sem] def r_ingotref3_Uint_0_o : Ops := [
oo 4 (.asg (.c (.int .u64 0))), oo 5 (.asg (.c (.bool false)))]
def r_ingotref3_Uint_0 := rg r_ingotref3_Uint_0_o [0, 1]
@[go_sem] theorem r_ingotref3_Uint_0_u : Gr X K s r_ingotref3_Uint_0 r_ingotref3_Uint_0_o [0, 1] := go_region _ _
@[go_sem] def r_ingotref3_Uint_1_o : Ops := [
oo 6 (.asg (.c (.int .u64 0)))]
def r_ingotref3_Uint_1 := rg r_ingotref3_Uint_1_o [0, 1, 6]
@[go_sem] theorem r_ingotref3_Uint_1_u : Gr X K s r_ingotref3_Uint_1 r_ingotref3_Uint_1_o [0, 1, 6] := go_region _ _
@[go_sem] def r_ingotref3_Uint_2_o : Ops := [
oo 7 (.asg (.c (.bool false)))]
def r_ingotref3_Uint_2 := rg r_ingotref3_Uint_2_o [0, 1, 6, 7]
@[go_sem] theorem r_ingotref3_Uint_2_u : Gr X K s r_ingotref3_Uint_2 r_ingotref3_Uint_2_o [0, 1, 6, 7] := go_region _ _
@[go_sem] def r_ingotref3_Uint_3_o : Ops := [
oo 8 (.asg (ci 0))]
def r_ingotref3_Uint_3 := rg r_ingotref3_Uint_3_o [0, 1, 6, 7, 8]
@[go_sem] theorem r_ingotref3_Uint_3_u : Gr X K s r_ingotref3_Uint_3 r_ingotref3_Uint_3_o [0, 1, 6, 7, 8] := go_region _ _
@[go_sem] def r_ingotref3_Uint_4_o : Ops := [
oo 9 (.mv (.t 8)), oo 10 (.mv (.t 0)), oo 11 (.len false (.t 10)), oo 12 (.bin .lss (.t 9) (.t 11))]
def r_ingotref3_Uint_4 := rg r_ingotref3_Uint_4_o [0, 1, 6, 7, 8, 12]
@[go_sem] theorem r_ingotref3_Uint_4_u : Gr X K s r_ingotref3_Uint_4 r_ingotref3_Uint_4_o [0, 1, 6, 7, 8, 12] := go_region _ _
@[go_sem] def r_ingotref3_Uint_5_o : Ops := [
oo 15 (.mv (.t 0)), oo 16 (.mv (.t 8)), oo 17 (.idxA 5 (.t 15) (.t 16)), oo 18 (.fieldA 0 (.t 17)), oo 19 (.load none (.t 18)), oo 20 (.mv (.t 1)), oo 21 (.bin .eql (.t 19) (.t 20)), oo 22 (.mv (.t 21)), og 23 22 true (.mv (.t 0)), og 24 22 true (.mv (.t 8)), og 25 22 true (.idxA 5 (.t 23) (.t 24)), og 26 22 true (.fieldA 1 (.t 25)), og 27 22 true (.load none (.t 26)), og 28 22 true (.bin .eql (.t 27) (ci 0)), oo 29 (.pick (.t 22) (.t 28) (.c (.bool false)))]
def r_ingotref3_Uint_5 := rg r_ingotref3_Uint_5_o [0, 1, 6, 7, 8, 29]
@[go_sem] theorem r_ingotref3_Uint_5_u : Gr X K s r_ingotref3_Uint_5 r_ingotref3_Uint_5_o [0, 1, 6, 7, 8, 29] := go_region _ _
@[go_sem] def r_ingotref3_Uint_6_o : Ops := [
oo 30 (.mv (.t 0)), oo 31 (.mv (.t 8)), oo 32 (.idxA 5 (.t 30) (.t 31)), oo 33 (.fieldA 2 (.t 32)), oo 34 (.load none (.t 33)), oo 6 (.asg (.t 34))]
def r_ingotref3_Uint_6 := rg r_ingotref3_Uint_6_o [0, 1, 6, 8]
@[go_sem] theorem r_ingotref3_Uint_6_u : Gr X K s r_ingotref3_Uint_6 r_ingotref3_Uint_6_o [0, 1, 6, 8] := go_region _ _
@[go_sem] def r_ingotref3_Uint_7_o : Ops := [
oo 7 (.asg (.c (.bool true)))]
def r_ingotref3_Uint_7 := rg r_ingotref3_Uint_7_o [0, 1, 6, 7, 8]
@[go_sem] theorem r_ingotref3_Uint_7_u : Gr X K s r_ingotref3_Uint_7 r_ingotref3_Uint_7_o [0, 1, 6, 7, 8] := go_region _ _
@[go_sem] def r_ingotref3_Uint_8_o : Ops := [
oo 13 (.mv (.t 8)), oo 14 (.bin .add (.t 13) (ci 1)), oo 8 (.asg (.t 14))]
def r_ingotref3_Uint_8 := rg r_ingotref3_Uint_8_o [0, 1, 6, 7, 8]
@[go_sem] theorem r_ingotref3_Uint_8_u : Gr X K s r_ingotref3_Uint_8 r_ingotref3_Uint_8_o [0, 1, 6, 7, 8] := go_region _ _
def b_ingotref3_Uint_9 : ICode := (.seq (.seq r_ingotref3_Uint_4 (.cond (.t 12) .skip (.exit 0))) (.seq (.block 1 (.seq r_ingotref3_Uint_5 (.cond (.t 29) (.seq r_ingotref3_Uint_6 r_ingotref3_Uint_7) .skip))) r_ingotref3_Uint_8))
@[go_sem] theorem b_ingotref3_Uint_9_u : Gn X K s b_ingotref3_Uint_9 (.seq (.seq r_ingotref3_Uint_4 (.cond (.t 12) .skip (.exit 0))) (.seq (.block 1 (.seq r_ingotref3_Uint_5 (.cond (.t 29) (.seq r_ingotref3_Uint_6 r_ingotref3_Uint_7) .skip))) r_ingotref3_Uint_8)) := rfl
@[go_sem] def r_ingotref3_Uint_10_o : Ops := [
oo 35 (.mv (.t 6)), oo 36 (.mv (.t 7)), oo 4 (.asg (.t 35)), oo 5 (.asg (.t 36))]
def r_ingotref3_Uint_10 := rg r_ingotref3_Uint_10_o [4, 5]
@[go_sem] theorem r_ingotref3_Uint_10_u : Gr X K s r_ingotref3_Uint_10 r_ingotref3_Uint_10_o [4, 5] := go_region _ _
def c_ingotref3_Uint : ICode := (.seq r_ingotref3_Uint_0 (.seq r_ingotref3_Uint_1 (.seq r_ingotref3_Uint_2 (.seq (.seq r_ingotref3_Uint_3 (.block 0 (.loop b_ingotref3_Uint_9))) (.seq r_ingotref3_Uint_10 .ret)))))
def i_ingotref3_Uint : IFunc := ⟨2, [.t 4, .t 5], c_ingotref3_Uint⟩
def a_ingotref3_Uint : Advice := ⟨[], [(9, [4, 5]), (5, [0, 1, 6, 7, 8]), (8, [0, 1, 6, 7, 8]), (7, [0, 1, 6, 8]), (6, [0, 1, 6, 7, 8, 29]), (4, [0, 1, 6, 7, 8, 12]), (3, [0, 1, 6, 7, 8]), (2, [0, 1, 6, 7]), (1, [0, 1, 6]), (0, [0, 1])], [], [], [], []⟩
/-! ingot/ingotref1.Var -/
@[go_sem] def r_ingotref1_Var_0_o : Ops := [
oo 4 (.asg (.c (.int .u64 0))), oo 5 (.asg (ci 0)), oo 6 (.asg (ci 0))]
def r_ingotref1_Var_0 := rg r_ingotref1_Var_0_o [0, 1]
@[go_sem] theorem r_ingotref1_Var_0_u : Gr X K s r_ingotref1_Var_0 r_ingotref1_Var_0_o [0, 1] := go_region _ _
@[go_sem] def r_ingotref1_Var_1_o : Ops := [
oo 10 (.mv (.t 1)), oo 11 (.bin .lss (.t 10) (ci 0)), oo 12 (.mv (.t 11)), og 13 12 false (.mv (.t 1)), og 14 12 false (.mv (.t 0)), og 15 12 false (.len false (.t 14)), og 16 12 false (.bin .gtr (.t 13) (.t 15)), oo 17 (.pick (.t 12) (.c (.bool true)) (.t 16))]
def r_ingotref1_Var_1 := rg r_ingotref1_Var_1_o [0, 1, 17]
@[go_sem] theorem r_ingotref1_Var_1_u : Gr X K s r_ingotref1_Var_1 r_ingotref1_Var_1_o [0, 1, 17] := go_region _ _
@[go_sem] def r_ingotref1_Var_2_o : Ops := [
oo 4 (.asg (.c (.int .u64 0))), oo 5 (.asg (ci 0)), oo 6 (.asg (ci 1))]
def r_ingotref1_Var_2 := rg r_ingotref1_Var_2_o [4, 5, 6]
@[go_sem] theorem r_ingotref1_Var_2_u : Gr X K s r_ingotref1_Var_2 r_ingotref1_Var_2_o [4, 5, 6] := go_region _ _
@[go_sem] def r_ingotref1_Var_3_o : Ops := [
oo 7 (.asg (.c (.int .u64 0)))]
def r_ingotref1_Var_3 := rg r_ingotref1_Var_3_o [0, 1, 7]
@[go_sem] theorem r_ingotref1_Var_3_u : Gr X K s r_ingotref1_Var_3 r_ingotref1_Var_3_o [0, 1, 7] := go_region _ _
@[go_sem] def r_ingotref1_Var_4_o : Ops := [
oo 8 (.asg (ci 0))]
def r_ingotref1_Var_4 := rg r_ingotref1_Var_4_o [0, 1, 7, 8]
@[go_sem] theorem r_ingotref1_Var_4_u : Gr X K s r_ingotref1_Var_4 r_ingotref1_Var_4_o [0, 1, 7, 8] := go_region _ _
@[go_sem] def r_ingotref1_Var_5_o : Ops := [
oo 18 (.mv (.t 8)), oo 19 (.bin .lss (.t 18) (ci 10))]
def r_ingotref1_Var_5 := rg r_ingotref1_Var_5_o [0, 1, 7, 8, 19]
@[go_sem] theorem r_ingotref1_Var_5_u : Gr X K s r_ingotref1_Var_5 r_ingotref1_Var_5_o [0, 1, 7, 8, 19] := go_region _ _
@[go_sem] def r_ingotref1_Var_6_o : Ops := [
oo 22 (.mv (.t 1)), oo 23 (.mv (.t 8)), oo 24 (.bin .add (.t 22) (.t 23)), oo 25 (.mv (.t 0)), oo 26 (.len false (.t 25)), oo 27 (.bin .eql (.t 24) (.t 26))]
def r_ingotref1_Var_6 := rg r_ingotref1_Var_6_o [0, 1, 7, 8, 27]
@[go_sem] theorem r_ingotref1_Var_6_u : Gr X K s r_ingotref1_Var_6 r_ingotref1_Var_6_o [0, 1, 7, 8, 27] := go_region _ _
@[go_sem] def r_ingotref1_Var_7_o : Ops := [
oo 4 (.asg (.c (.int .u64 0))), oo 5 (.asg (ci 0)), oo 6 (.asg (ci 3))]
def r_ingotref1_Var_7 := rg r_ingotref1_Var_7_o [4, 5, 6]
@[go_sem] theorem r_ingotref1_Var_7_u : Gr X K s r_ingotref1_Var_7 r_ingotref1_Var_7_o [4, 5, 6] := go_region _ _
@[go_sem] def r_ingotref1_Var_8_o : Ops := [
oo 28 (.mv (.t 0)), oo 29 (.mv (.t 1)), oo 30 (.mv (.t 8)), oo 31 (.bin .add (.t 29) (.t 30)), oo 32 (.idxA 1 (.t 28) (.t 31)), oo 33 (.load none (.t 32)), oo 9 (.asg (.t 33))]
def r_ingotref1_Var_8 := rg r_ingotref1_Var_8_o [0, 1, 7, 8, 9]
@[go_sem] theorem r_ingotref1_Var_8_u : Gr X K s r_ingotref1_Var_8 r_ingotref1_Var_8_o [0, 1, 7, 8, 9] := go_region _ _
@[go_sem] def r_ingotref1_Var_9_o : Ops := [
oo 34 (.mv (.t 8)), oo 35 (.bin .eql (.t 34) (ci 9)), oo 36 (.mv (.t 35)), og 37 36 true (.mv (.t 9)), og 38 36 true (.bin .gtr (.t 37) (.c (.int .u8 1))), oo 39 (.pick (.t 36) (.t 38) (.c (.bool false)))]
def r_ingotref1_Var_9 := rg r_ingotref1_Var_9_o [0, 1, 7, 8, 9, 39]
@[go_sem] theorem r_ingotref1_Var_9_u : Gr X K s r_ingotref1_Var_9 r_ingotref1_Var_9_o [0, 1, 7, 8, 9, 39] := go_region _ _
@[go_sem] def r_ingotref1_Var_10_o : Ops := [
oo 4 (.asg (.c (.int .u64 0))), oo 5 (.asg (ci 0)), oo 6 (.asg (ci 4))]
def r_ingotref1_Var_10 := rg r_ingotref1_Var_10_o [4, 5, 6]
@[go_sem] theorem r_ingotref1_Var_10_u : Gr X K s r_ingotref1_Var_10 r_ingotref1_Var_10_o [4, 5, 6] := go_region _ _
@[go_sem] def r_ingotref1_Var_11_o : Ops := [
oo 40 (.mv (.t 7)), oo 41 (.mv (.t 9)), oo 42 (.bin .and (.t 41) (.c (.int .u8 127))), oo 43 (.cvInt .u64 (.t 42)), oo 44 (.mv (.t 8)), oo 45 (.cvInt .u64 (.t 44)), oo 46 (.bin .mul (.c (.int .u64 7)) (.t 45)), oo 47 (.bin .shl (.t 43) (.t 46)), oo 48 (.bin .or (.t 40) (.t 47)), oo 7 (.asg (.t 48))]
def r_ingotref1_Var_11 := rg r_ingotref1_Var_11_o [0, 1, 7, 8, 9]
@[go_sem] theorem r_ingotref1_Var_11_u : Gr X K s r_ingotref1_Var_11 r_ingotref1_Var_11_o [0, 1, 7, 8, 9] := go_region _ _
@[go_sem] def r_ingotref1_Var_12_o : Ops := [
oo 49 (.mv (.t 9)), oo 50 (.bin .lss (.t 49) (.c (.int .u8 128)))]
def r_ingotref1_Var_12 := rg r_ingotref1_Var_12_o [0, 1, 7, 8, 50]
@[go_sem] theorem r_ingotref1_Var_12_u : Gr X K s r_ingotref1_Var_12 r_ingotref1_Var_12_o [0, 1, 7, 8, 50] := go_region _ _
@[go_sem] def r_ingotref1_Var_13_o : Ops := [
oo 51 (.mv (.t 7)), oo 52 (.mv (.t 8)), oo 53 (.bin .add (.t 52) (ci 1)), oo 4 (.asg (.t 51)), oo 5 (.asg (.t 53)), oo 6 (.asg (ci 0))]
def r_ingotref1_Var_13 := rg r_ingotref1_Var_13_o [4, 5, 6]
@[go_sem] theorem r_ingotref1_Var_13_u : Gr X K s r_ingotref1_Var_13 r_ingotref1_Var_13_o [4, 5, 6] := go_region _ _
@[go_sem] def r_ingotref1_Var_14_o : Ops := [
oo 20 (.mv (.t 8)), oo 21 (.bin .add (.t 20) (ci 1)), oo 8 (.asg (.t 21))]
def r_ingotref1_Var_14 := rg r_ingotref1_Var_14_o [0, 1, 7, 8]
@[go_sem] theorem r_ingotref1_Var_14_u : Gr X K s r_ingotref1_Var_14 r_ingotref1_Var_14_o [0, 1, 7, 8] := go_region _ _
def b_ingotref1_Var_15 : ICode := (.seq (.seq r_ingotref1_Var_5 (.cond (.t 19) .skip (.exit 0))) (.seq (.block 1 (.seq (.seq r_ingotref1_Var_6 (.cond (.t 27) (.seq r_ingotref1_Var_7 .ret) .skip)) (.seq r_ingotref1_Var_8 (.seq (.seq r_ingotref1_Var_9 (.cond (.t 39) (.seq r_ingotref1_Var_10 .ret) .skip)) (.seq r_ingotref1_Var_11 (.seq r_ingotref1_Var_12 (.cond (.t 50) (.seq r_ingotref1_Var_13 .ret) .skip))))))) r_ingotref1_Var_14))
@[go_sem] theorem b_ingotref1_Var_15_u : Gn X K s b_ingotref1_Var_15 (.seq (.seq r_ingotref1_Var_5 (.cond (.t 19) .skip (.exit 0))) (.seq (.block 1 (.seq (.seq r_ingotref1_Var_6 (.cond (.t 27) (.seq r_ingotref1_Var_7 .ret) .skip)) (.seq r_ingotref1_Var_8 (.seq (.seq r_ingotref1_Var_9 (.cond (.t 39) (.seq r_ingotref1_Var_10 .ret) .skip)) (.seq r_ingotref1_Var_11 (.seq r_ingotref1_Var_12 (.cond (.t 50) (.seq r_ingotref1_Var_13 .ret) .skip))))))) r_ingotref1_Var_14)) := rfl
@[go_sem] def r_ingotref1_Var_16_o : Ops := [
oo 4 (.asg (.c (.int .u64 0))), oo 5 (.asg (ci 0)), oo 6 (.asg (ci 4))]
def r_ingotref1_Var_16 := rg r_ingotref1_Var_16_o [4, 5, 6]
@[go_sem] theorem r_ingotref1_Var_16_u : Gr X K s r_ingotref1_Var_16 r_ingotref1_Var_16_o [4, 5, 6] := go_region _ _
def c_ingotref1_Var : ICode := (.seq r_ingotref1_Var_0 (.seq r_ingotref1_Var_1 (.cond (.t 17) (.seq r_ingotref1_Var_2 .ret) (.seq r_ingotref1_Var_3 (.seq (.seq r_ingotref1_Var_4 (.block 0 (.loop b_ingotref1_Var_15))) (.seq r_ingotref1_Var_16 .ret))))))
def i_ingotref1_Var : IFunc := ⟨2, [.t 4, .t 5, .t 6], c_ingotref1_Var⟩
def a_ingotref1_Var : Advice := ⟨[], [(15, [4, 5, 6]), (6, [0, 1, 7, 8]), (14, [4, 5, 6]), (13, [0, 1, 7, 8, 50]), (12, [0, 1, 7, 8, 9]), (11, [4, 5, 6]), (10, [0, 1, 7, 8, 9, 39]), (9, [0, 1, 7, 8, 9]), (8, [4, 5, 6]), (7, [0, 1, 7, 8, 27]), (5, [0, 1, 7, 8, 19]), (4, [0, 1, 7, 8]), (3, [0, 1, 7]), (2, [4, 5, 6]), (1, [0, 1, 17]), (0, [0, 1])], [], [], [], []⟩
/-! ingot/ingotref3.field -/
@[go_sem] def r_ingotref3_field_0_o : Ops := [
oo 4 (.alloc [(.int .i64 0), (.int .i64 0), (.int .u64 0), .nilS, (.int .i64 0)]), oo 5 (.asg (ci 0)), oo 6 (.asg (ci 0))]
def r_ingotref3_field_0 := rg r_ingotref3_field_0_o [0, 1, 4]
@[go_sem] theorem r_ingotref3_field_0_u : Gr X K s r_ingotref3_field_0 r_ingotref3_field_0_o [0, 1, 4] := go_region _ _
@[go_sem] def r_ingotref3_field_1_o : Ops := [
oo 20 (.mv (.t 0)), oo 21 (.mv (.t 1)), oo 22 (.call false n_ingotref1_Var [(.t 20), (.t 21)]), oo 19 (.mv (.t 22)), oo 23 (.ext (.t 19) 0), oo 24 (.ext (.t 19) 1), oo 25 (.ext (.t 19) 2), oo 7 (.asg (.t 23)), oo 8 (.asg (.t 24)), oo 9 (.asg (.t 25))]
def r_ingotref3_field_1 := rg r_ingotref3_field_1_o [0, 1, 4, 7, 8, 9]
@[go_sem] theorem r_ingotref3_field_1_u : Gr X K s r_ingotref3_field_1 r_ingotref3_field_1_o [0, 1, 4, 7, 8, 9] := go_region _ _
@[go_sem] def r_ingotref3_field_2_o : Ops := [
oo 26 (.mv (.t 9)), oo 27 (.bin .neq (.t 26) (ci 0))]
def r_ingotref3_field_2 := rg r_ingotref3_field_2_o [0, 1, 4, 7, 8, 9, 27]
@[go_sem] theorem r_ingotref3_field_2_u : Gr X K s r_ingotref3_field_2 r_ingotref3_field_2_o [0, 1, 4, 7, 8, 9, 27] := go_region _ _
@[go_sem] def r_ingotref3_field_3_o : Ops := [
oo 28 (.build [(.int .i64 0), (.int .i64 0), (.int .u64 0), (.sl []), (.int .i64 0)] []), oo 29 (.mv (.t 9)), ow (.store 5 (.t 4) (.t 28)), oo 5 (.asg (ci 0)), oo 6 (.asg (.t 29))]
def r_ingotref3_field_3 := rg r_ingotref3_field_3_o [4, 5, 6]
@[go_sem] theorem r_ingotref3_field_3_u : Gr X K s r_ingotref3_field_3 r_ingotref3_field_3_o [4, 5, 6] := go_region _ _
@[go_sem] def r_ingotref3_field_4_o : Ops := [
oo 30 (.mv (.t 7)), oo 31 (.bin .shr (.t 30) (.c (.int .u64 3))), oo 32 (.cvInt .i64 (.t 31)), oo 33 (.mv (.t 7)), oo 34 (.bin .and (.t 33) (.c (.int .u64 7))), oo 35 (.cvInt .i64 (.t 34)), oo 36 (.mv (.t 1)), oo 37 (.build [(.int .i64 0), (.int .i64 0), (.int .u64 0), (.sl []), (.int .i64 0)] [(0, 1, (.t 32)), (1, 1, (.t 35)), (4, 1, (.t 36))]), oo 10 (.alloc [(.int .i64 0), (.int .i64 0), (.int .u64 0), .nilS, (.int .i64 0)]), ow (.store 5 (.t 10) (.t 37))]
def r_ingotref3_field_4 := rg r_ingotref3_field_4_o [0, 1, 4, 7, 8, 10]
@[go_sem] theorem r_ingotref3_field_4_u : Gr X K s r_ingotref3_field_4 r_ingotref3_field_4_o [0, 1, 4, 7, 8, 10] := go_region _ _
@[go_sem] def r_ingotref3_field_5_o : Ops := [
oo 38 (.mv (.t 7)), oo 39 (.bin .shr (.t 38) (.c (.int .u64 3))), oo 40 (.bin .lss (.t 39) (.c (.int .u64 1))), oo 41 (.mv (.t 40)), og 42 41 false (.mv (.t 7)), og 43 41 false (.bin .shr (.t 42) (.c (.int .u64 3))), og 44 41 false (.bin .gtr (.t 43) (.c (.int .u64 536870911))), oo 45 (.pick (.t 41) (.c (.bool true)) (.t 44))]
def r_ingotref3_field_5 := rg r_ingotref3_field_5_o [0, 1, 4, 8, 10, 45]
@[go_sem] theorem r_ingotref3_field_5_u : Gr X K s r_ingotref3_field_5 r_ingotref3_field_5_o [0, 1, 4, 8, 10, 45] := go_region _ _
@[go_sem] def r_ingotref3_field_6_o : Ops := [
oo 46 (.build [(.int .i64 0), (.int .i64 0), (.int .u64 0), (.sl []), (.int .i64 0)] []), ow (.store 5 (.t 4) (.t 46)), oo 5 (.asg (ci 0)), oo 6 (.asg (ci 2))]
def r_ingotref3_field_6 := rg r_ingotref3_field_6_o [4, 5, 6]
@[go_sem] theorem r_ingotref3_field_6_u : Gr X K s r_ingotref3_field_6 r_ingotref3_field_6_o [4, 5, 6] := go_region _ _
@[go_sem] def r_ingotref3_field_7_o : Ops := [
oo 47 (.mv (.t 1)), oo 48 (.mv (.t 8)), oo 49 (.bin .add (.t 47) (.t 48)), oo 1 (.asg (.t 49))]
def r_ingotref3_field_7 := rg r_ingotref3_field_7_o [0, 1, 4, 10]
@[go_sem] theorem r_ingotref3_field_7_u : Gr X K s r_ingotref3_field_7 r_ingotref3_field_7_o [0, 1, 4, 10] := go_region _ _
@[go_sem] def r_ingotref3_field_8_o : Ops := [
oo 11 (.asg (ci 0))]
def r_ingotref3_field_8 := rg r_ingotref3_field_8_o [0, 1, 4, 10]
@[go_sem] theorem r_ingotref3_field_8_u : Gr X K s r_ingotref3_field_8 r_ingotref3_field_8_o [0, 1, 4, 10] := go_region _ _
@[go_sem] def r_ingotref3_field_9_o : Ops := [
oo 50 (.fieldA 1 (.t 10)), oo 51 (.load none (.t 50))]
def r_ingotref3_field_9 := rg r_ingotref3_field_9_o [0, 1, 4, 10, 51]
@[go_sem] theorem r_ingotref3_field_9_u : Gr X K s r_ingotref3_field_9 r_ingotref3_field_9_o [0, 1, 4, 10, 51] := go_region _ _
@[go_sem] def r_ingotref3_field_10_o : Ops := [
oo 54 (.bin .eql (.t 51) (ci 0)), oo 53 (.asg (.t 54))]
def r_ingotref3_field_10 := rg r_ingotref3_field_10_o [0, 1, 4, 10, 51, 53]
@[go_sem] theorem r_ingotref3_field_10_u : Gr X K s r_ingotref3_field_10 r_ingotref3_field_10_o [0, 1, 4, 10, 51, 53] := go_region _ _
@[go_sem] def r_ingotref3_field_11_o : Ops := [
oo 56 (.mv (.t 0)), oo 57 (.mv (.t 1)), oo 58 (.call false n_ingotref1_Var [(.t 56), (.t 57)]), oo 55 (.mv (.t 58)), oo 59 (.ext (.t 55) 0), oo 60 (.ext (.t 55) 1), oo 61 (.ext (.t 55) 2), oo 12 (.asg (.t 59)), oo 13 (.asg (.t 60)), oo 14 (.asg (.t 61))]
def r_ingotref3_field_11 := rg r_ingotref3_field_11_o [1, 4, 10, 12, 13, 14]
@[go_sem] theorem r_ingotref3_field_11_u : Gr X K s r_ingotref3_field_11 r_ingotref3_field_11_o [1, 4, 10, 12, 13, 14] := go_region _ _
@[go_sem] def r_ingotref3_field_12_o : Ops := [
oo 62 (.mv (.t 14)), oo 63 (.bin .neq (.t 62) (ci 0))]
def r_ingotref3_field_12 := rg r_ingotref3_field_12_o [1, 4, 10, 12, 13, 14, 63]
@[go_sem] theorem r_ingotref3_field_12_u : Gr X K s r_ingotref3_field_12 r_ingotref3_field_12_o [1, 4, 10, 12, 13, 14, 63] := go_region _ _
@[go_sem] def r_ingotref3_field_13_o : Ops := [
oo 64 (.build [(.int .i64 0), (.int .i64 0), (.int .u64 0), (.sl []), (.int .i64 0)] []), oo 65 (.mv (.t 14)), ow (.store 5 (.t 4) (.t 64)), oo 5 (.asg (ci 0)), oo 6 (.asg (.t 65))]
def r_ingotref3_field_13 := rg r_ingotref3_field_13_o [4, 5, 6]
@[go_sem] theorem r_ingotref3_field_13_u : Gr X K s r_ingotref3_field_13 r_ingotref3_field_13_o [4, 5, 6] := go_region _ _
@[go_sem] def r_ingotref3_field_14_o : Ops := [
oo 66 (.mv (.t 12)), oo 67 (.fieldA 2 (.t 10)), ow (.store 1 (.t 67) (.t 66))]
def r_ingotref3_field_14 := rg r_ingotref3_field_14_o [1, 4, 10, 13]
@[go_sem] theorem r_ingotref3_field_14_u : Gr X K s r_ingotref3_field_14 r_ingotref3_field_14_o [1, 4, 10, 13] := go_region _ _
@[go_sem] def r_ingotref3_field_15_o : Ops := [
oo 68 (.load (some 5) (.t 10)), oo 69 (.mv (.t 1)), oo 70 (.mv (.t 13)), oo 71 (.bin .add (.t 69) (.t 70)), ow (.store 5 (.t 4) (.t 68)), oo 5 (.asg (.t 71)), oo 6 (.asg (ci 0))]
def r_ingotref3_field_15 := rg r_ingotref3_field_15_o [4, 5, 6]
@[go_sem] theorem r_ingotref3_field_15_u : Gr X K s r_ingotref3_field_15 r_ingotref3_field_15_o [4, 5, 6] := go_region _ _
@[go_sem] def r_ingotref3_field_16_o : Ops := [
oo 73 (.bin .eql (.t 51) (ci 1)), oo 72 (.asg (.t 73))]
def r_ingotref3_field_16 := rg r_ingotref3_field_16_o [0, 1, 4, 10, 51, 72]
@[go_sem] theorem r_ingotref3_field_16_u : Gr X K s r_ingotref3_field_16 r_ingotref3_field_16_o [0, 1, 4, 10, 51, 72] := go_region _ _
@[go_sem] def r_ingotref3_field_17_o : Ops := [
oo 11 (.asg (ci 8))]
def r_ingotref3_field_17 := rg r_ingotref3_field_17_o [0, 1, 4, 10, 11]
@[go_sem] theorem r_ingotref3_field_17_u : Gr X K s r_ingotref3_field_17 r_ingotref3_field_17_o [0, 1, 4, 10, 11] := go_region _ _
@[go_sem] def r_ingotref3_field_18_o : Ops := [
oo 75 (.bin .eql (.t 51) (ci 2)), oo 74 (.asg (.t 75))]
def r_ingotref3_field_18 := rg r_ingotref3_field_18_o [0, 1, 4, 10, 51, 74]
@[go_sem] theorem r_ingotref3_field_18_u : Gr X K s r_ingotref3_field_18 r_ingotref3_field_18_o [0, 1, 4, 10, 51, 74] := go_region _ _
@[go_sem] def r_ingotref3_field_19_o : Ops := [
oo 77 (.mv (.t 0)), oo 78 (.mv (.t 1)), oo 79 (.call false n_ingotref1_Var [(.t 77), (.t 78)]), oo 76 (.mv (.t 79)), oo 80 (.ext (.t 76) 0), oo 81 (.ext (.t 76) 1), oo 82 (.ext (.t 76) 2), oo 15 (.asg (.t 80)), oo 16 (.asg (.t 81)), oo 17 (.asg (.t 82))]
def r_ingotref3_field_19 := rg r_ingotref3_field_19_o [0, 1, 4, 10, 15, 16, 17]
@[go_sem] theorem r_ingotref3_field_19_u : Gr X K s r_ingotref3_field_19 r_ingotref3_field_19_o [0, 1, 4, 10, 15, 16, 17] := go_region _ _
@[go_sem] def r_ingotref3_field_20_o : Ops := [
oo 83 (.mv (.t 17)), oo 84 (.bin .neq (.t 83) (ci 0))]
def r_ingotref3_field_20 := rg r_ingotref3_field_20_o [0, 1, 4, 10, 15, 16, 17, 84]
@[go_sem] theorem r_ingotref3_field_20_u : Gr X K s r_ingotref3_field_20 r_ingotref3_field_20_o [0, 1, 4, 10, 15, 16, 17, 84] := go_region _ _
@[go_sem] def r_ingotref3_field_21_o : Ops := [
oo 85 (.build [(.int .i64 0), (.int .i64 0), (.int .u64 0), (.sl []), (.int .i64 0)] []), oo 86 (.mv (.t 17)), ow (.store 5 (.t 4) (.t 85)), oo 5 (.asg (ci 0)), oo 6 (.asg (.t 86))]
def r_ingotref3_field_21 := rg r_ingotref3_field_21_o [4, 5, 6]
@[go_sem] theorem r_ingotref3_field_21_u : Gr X K s r_ingotref3_field_21 r_ingotref3_field_21_o [4, 5, 6] := go_region _ _
@[go_sem] def r_ingotref3_field_22_o : Ops := [
oo 87 (.mv (.t 1)), oo 88 (.mv (.t 16)), oo 89 (.bin .add (.t 87) (.t 88)), oo 1 (.asg (.t 89))]
def r_ingotref3_field_22 := rg r_ingotref3_field_22_o [0, 1, 4, 10, 15]
@[go_sem] theorem r_ingotref3_field_22_u : Gr X K s r_ingotref3_field_22 r_ingotref3_field_22_o [0, 1, 4, 10, 15] := go_region _ _
@[go_sem] def r_ingotref3_field_23_o : Ops := [
oo 90 (.mv (.t 15)), oo 91 (.mv (.t 0)), oo 92 (.len false (.t 91)), oo 93 (.mv (.t 1)), oo 94 (.bin .sub (.t 92) (.t 93)), oo 95 (.cvInt .u64 (.t 94)), oo 96 (.bin .gtr (.t 90) (.t 95))]
def r_ingotref3_field_23 := rg r_ingotref3_field_23_o [0, 1, 4, 10, 15, 96]
@[go_sem] theorem r_ingotref3_field_23_u : Gr X K s r_ingotref3_field_23 r_ingotref3_field_23_o [0, 1, 4, 10, 15, 96] := go_region _ _
@[go_sem] def r_ingotref3_field_24_o : Ops := [
oo 97 (.build [(.int .i64 0), (.int .i64 0), (.int .u64 0), (.sl []), (.int .i64 0)] []), ow (.store 5 (.t 4) (.t 97)), oo 5 (.asg (ci 0)), oo 6 (.asg (ci 3))]
def r_ingotref3_field_24 := rg r_ingotref3_field_24_o [4, 5, 6]
@[go_sem] theorem r_ingotref3_field_24_u : Gr X K s r_ingotref3_field_24 r_ingotref3_field_24_o [4, 5, 6] := go_region _ _
@[go_sem] def r_ingotref3_field_25_o : Ops := [
oo 98 (.lit true 1 0 (.int .u8 0) []), oo 99 (.mv (.t 0)), oo 100 (.mv (.t 1)), oo 101 (.mv (.t 1)), oo 102 (.mv (.t 15)), oo 103 (.cvInt .i64 (.t 102)), oo 104 (.bin .add (.t 101) (.t 103)), oo 105 (.slice 1 (.t 99) (some (.t 100)) (some (.t 104)) none), oo 106 (.append 1 1 (.t 98) (.t 105)), oo 107 (.fieldA 3 (.t 10)), ow (.store 1 (.t 107) (.t 106))]
def r_ingotref3_field_25 := rg r_ingotref3_field_25_o [1, 4, 10, 15]
@[go_sem] theorem r_ingotref3_field_25_u : Gr X K s r_ingotref3_field_25 r_ingotref3_field_25_o [1, 4, 10, 15] := go_region _ _
@[go_sem] def r_ingotref3_field_26_o : Ops := [
oo 108 (.load (some 5) (.t 10)), oo 109 (.mv (.t 1)), oo 110 (.mv (.t 15)), oo 111 (.cvInt .i64 (.t 110)), oo 112 (.bin .add (.t 109) (.t 111)), ow (.store 5 (.t 4) (.t 108)), oo 5 (.asg (.t 112)), oo 6 (.asg (ci 0))]
def r_ingotref3_field_26 := rg r_ingotref3_field_26_o [4, 5, 6]
@[go_sem] theorem r_ingotref3_field_26_u : Gr X K s r_ingotref3_field_26 r_ingotref3_field_26_o [4, 5, 6] := go_region _ _
@[go_sem] def r_ingotref3_field_27_o : Ops := [
oo 114 (.bin .eql (.t 51) (ci 5)), oo 113 (.asg (.t 114))]
def r_ingotref3_field_27 := rg r_ingotref3_field_27_o [0, 1, 4, 10, 113]
@[go_sem] theorem r_ingotref3_field_27_u : Gr X K s r_ingotref3_field_27 r_ingotref3_field_27_o [0, 1, 4, 10, 113] := go_region _ _
@[go_sem] def r_ingotref3_field_28_o : Ops := [
oo 11 (.asg (ci 4))]
def r_ingotref3_field_28 := rg r_ingotref3_field_28_o [0, 1, 4, 10, 11]
@[go_sem] theorem r_ingotref3_field_28_u : Gr X K s r_ingotref3_field_28 r_ingotref3_field_28_o [0, 1, 4, 10, 11] := go_region _ _
@[go_sem] def r_ingotref3_field_29_o : Ops := [
oo 52 (.build [(.int .i64 0), (.int .i64 0), (.int .u64 0), (.sl []), (.int .i64 0)] []), ow (.store 5 (.t 4) (.t 52)), oo 5 (.asg (ci 0)), oo 6 (.asg (ci 2))]
def r_ingotref3_field_29 := rg r_ingotref3_field_29_o [4, 5, 6]
@[go_sem] theorem r_ingotref3_field_29_u : Gr X K s r_ingotref3_field_29 r_ingotref3_field_29_o [4, 5, 6] := go_region _ _
@[go_sem] def r_ingotref3_field_30_o : Ops := [
oo 115 (.mv (.t 0)), oo 116 (.len false (.t 115)), oo 117 (.mv (.t 1)), oo 118 (.bin .sub (.t 116) (.t 117)), oo 119 (.mv (.t 11)), oo 120 (.bin .lss (.t 118) (.t 119))]
def r_ingotref3_field_30 := rg r_ingotref3_field_30_o [0, 1, 4, 10, 11, 120]
@[go_sem] theorem r_ingotref3_field_30_u : Gr X K s r_ingotref3_field_30 r_ingotref3_field_30_o [0, 1, 4, 10, 11, 120] := go_region _ _
@[go_sem] def r_ingotref3_field_31_o : Ops := [
oo 121 (.build [(.int .i64 0), (.int .i64 0), (.int .u64 0), (.sl []), (.int .i64 0)] []), ow (.store 5 (.t 4) (.t 121)), oo 5 (.asg (ci 0)), oo 6 (.asg (ci 3))]
def r_ingotref3_field_31 := rg r_ingotref3_field_31_o [4, 5, 6]
@[go_sem] theorem r_ingotref3_field_31_u : Gr X K s r_ingotref3_field_31 r_ingotref3_field_31_o [4, 5, 6] := go_region _ _
@[go_sem] def r_ingotref3_field_32_o : Ops := [
oo 122 (.mv (.t 11)), oo 123 (.bin .sub (.t 122) (ci 1)), oo 18 (.asg (.t 123))]
def r_ingotref3_field_32 := rg r_ingotref3_field_32_o [0, 1, 4, 10, 11, 18]
@[go_sem] theorem r_ingotref3_field_32_u : Gr X K s r_ingotref3_field_32 r_ingotref3_field_32_o [0, 1, 4, 10, 11, 18] := go_region _ _
@[go_sem] def r_ingotref3_field_33_o : Ops := [
oo 124 (.mv (.t 18)), oo 125 (.bin .geq (.t 124) (ci 0))]
def r_ingotref3_field_33 := rg r_ingotref3_field_33_o [0, 1, 4, 10, 11, 18, 125]
@[go_sem] theorem r_ingotref3_field_33_u : Gr X K s r_ingotref3_field_33 r_ingotref3_field_33_o [0, 1, 4, 10, 11, 18, 125] := go_region _ _
@[go_sem] def r_ingotref3_field_34_o : Ops := [
oo 128 (.fieldA 2 (.t 10)), oo 129 (.load none (.t 128)), oo 130 (.bin .shl (.t 129) (.c (.int .u64 8))), oo 131 (.mv (.t 0)), oo 132 (.mv (.t 1)), oo 133 (.mv (.t 18)), oo 134 (.bin .add (.t 132) (.t 133)), oo 135 (.idxA 1 (.t 131) (.t 134)), oo 136 (.load none (.t 135)), oo 137 (.cvInt .u64 (.t 136)), oo 138 (.bin .or (.t 130) (.t 137)), oo 139 (.fieldA 2 (.t 10)), ow (.store 1 (.t 139) (.t 138))]
def r_ingotref3_field_34_n : List (Nat × Nat) := [(0, 3), (1, 3), (2, 3), (0, 4), (1, 4), (2, 4), (3, 4), (0, 5), (1, 5), (2, 5), (3, 5), (4, 5), (0, 6), (1, 6), (2, 6), (3, 6), (0, 7), (1, 7), (2, 7), (0, 8), (1, 8), (2, 8), (0, 9), (1, 9), (2, 9)]
def r_ingotref3_field_34 : ICode := .region r_ingotref3_field_34_o r_ingotref3_field_34_n [0, 1, 4, 10, 11, 18]
@[go_sem] theorem r_ingotref3_field_34_u : go X (.c r_ingotref3_field_34 :: K) s = goRU X [] r_ingotref3_field_34_n r_ingotref3_field_34_o [0, 1, 4, 10, 11, 18] K s := go_regionU' _ _ _ _
@[go_sem] def r_ingotref3_field_35_o : Ops := [
oo 126 (.mv (.t 18)), oo 127 (.bin .sub (.t 126) (ci 1)), oo 18 (.asg (.t 127))]
def r_ingotref3_field_35 := rg r_ingotref3_field_35_o [0, 1, 4, 10, 11, 18]
@[go_sem] theorem r_ingotref3_field_35_u : Gr X K s r_ingotref3_field_35 r_ingotref3_field_35_o [0, 1, 4, 10, 11, 18] := go_region _ _
def b_ingotref3_field_36 : ICode := (.seq (.seq r_ingotref3_field_33 (.cond (.t 125) .skip (.exit 1))) (.seq (.block 2 r_ingotref3_field_34) r_ingotref3_field_35))
@[go_sem] theorem b_ingotref3_field_36_u : Gn X K s b_ingotref3_field_36 (.seq (.seq r_ingotref3_field_33 (.cond (.t 125) .skip (.exit 1))) (.seq (.block 2 r_ingotref3_field_34) r_ingotref3_field_35)) := rfl
@[go_sem] def r_ingotref3_field_37_o : Ops := [
oo 140 (.load (some 5) (.t 10)), oo 141 (.mv (.t 1)), oo 142 (.mv (.t 11)), oo 143 (.bin .add (.t 141) (.t 142)), ow (.store 5 (.t 4) (.t 140)), oo 5 (.asg (.t 143)), oo 6 (.asg (ci 0))]
def r_ingotref3_field_37 := rg r_ingotref3_field_37_o [4, 5, 6]
@[go_sem] theorem r_ingotref3_field_37_u : Gr X K s r_ingotref3_field_37 r_ingotref3_field_37_o [4, 5, 6] := go_region _ _
def c_ingotref3_field : ICode := (.seq r_ingotref3_field_0 (.seq r_ingotref3_field_1 (.seq r_ingotref3_field_2 (.cond (.t 27) (.seq r_ingotref3_field_3 .ret) (.seq r_ingotref3_field_4 (.seq r_ingotref3_field_5 (.cond (.t 45) (.seq r_ingotref3_field_6 .ret) (.seq r_ingotref3_field_7 (.seq r_ingotref3_field_8 (.seq (.seq r_ingotref3_field_9 (.block 0 (.seq r_ingotref3_field_10 (.cond (.t 53) (.seq r_ingotref3_field_11 (.seq (.seq r_ingotref3_field_12 (.cond (.t 63) (.seq r_ingotref3_field_13 .ret) .skip)) (.seq r_ingotref3_field_14 (.seq r_ingotref3_field_15 .ret)))) (.seq r_ingotref3_field_16 (.cond (.t 72) r_ingotref3_field_17 (.seq r_ingotref3_field_18 (.cond (.t 74) (.seq r_ingotref3_field_19 (.seq (.seq r_ingotref3_field_20 (.cond (.t 84) (.seq r_ingotref3_field_21 .ret) .skip)) (.seq r_ingotref3_field_22 (.seq (.seq r_ingotref3_field_23 (.cond (.t 96) (.seq r_ingotref3_field_24 .ret) .skip)) (.seq r_ingotref3_field_25 (.seq r_ingotref3_field_26 .ret)))))) (.seq r_ingotref3_field_27 (.cond (.t 113) r_ingotref3_field_28 (.seq r_ingotref3_field_29 .ret))))))))))) (.seq r_ingotref3_field_30 (.cond (.t 120) (.seq r_ingotref3_field_31 .ret) (.seq (.seq r_ingotref3_field_32 (.block 1 (.loop b_ingotref3_field_36))) (.seq r_ingotref3_field_37 .ret))))))))))))))
def i_ingotref3_field : IFunc := ⟨2, [.cell 4 (some 5), .t 5, .t 6], c_ingotref3_field⟩
def a_ingotref3_field : Advice := ⟨[98], [(36, [4, 5, 6]), (34, [0, 1, 4, 10, 11, 18]), (35, [0, 1, 4, 10, 11, 18]), (33, [0, 1, 4, 10, 11, 18, 125]), (32, [0, 1, 4, 10, 11, 18]), (31, [4, 5, 6]), (30, [0, 1, 4, 10, 11, 120]), (16, [4, 5, 6]), (15, [1, 4, 10, 13]), (14, [4, 5, 6]), (13, [1, 4, 10, 12, 13, 14, 63]), (12, [1, 4, 10, 12, 13, 14]), (18, [0, 1, 4, 10, 11]), (27, [4, 5, 6]), (26, [1, 4, 10, 15]), (25, [4, 5, 6]), (24, [0, 1, 4, 10, 15, 96]), (23, [0, 1, 4, 10, 15]), (22, [4, 5, 6]), (21, [0, 1, 4, 10, 15, 16, 17, 84]), (20, [0, 1, 4, 10, 15, 16, 17]), (29, [0, 1, 4, 10, 11]), (10, [4, 5, 6]), (28, [0, 1, 4, 10, 113]), (19, [0, 1, 4, 10, 51, 74]), (17, [0, 1, 4, 10, 51, 72]), (11, [0, 1, 4, 10, 51, 53]), (9, [0, 1, 4, 10, 51]), (8, [0, 1, 4, 10]), (7, [0, 1, 4, 10]), (6, [4, 5, 6]), (5, [0, 1, 4, 8, 10, 45]), (4, [0, 1, 4, 7, 8, 10]), (3, [4, 5, 6]), (2, [0, 1, 4, 7, 8, 9, 27]), (1, [0, 1, 4, 7, 8, 9]), (0, [0, 1, 4])], [], [], [], []⟩
/-! ingot/ingotref3.Parse -/
@[go_sem] def r_ingotref3_Parse_0_o : Ops := [
oo 2 (.asg (.c .nilS)), oo 3 (.asg (ci 0))]
def r_ingotref3_Parse_0 := rg r_ingotref3_Parse_0_o [0]
@[go_sem] theorem r_ingotref3_Parse_0_u : Gr X K s r_ingotref3_Parse_0 r_ingotref3_Parse_0_o [0] := go_region _ _
@[go_sem] def r_ingotref3_Parse_1_o : Ops := [
oo 9 (.mv (.t 0)), oo 10 (.len false (.t 9)), oo 11 (.bin .gtr (.t 10) (ci 262144))]
def r_ingotref3_Parse_1 := rg r_ingotref3_Parse_1_o [0, 11]
@[go_sem] theorem r_ingotref3_Parse_1_u : Gr X K s r_ingotref3_Parse_1 r_ingotref3_Parse_1_o [0, 11] := go_region _ _
@[go_sem] def r_ingotref3_Parse_2_o : Ops := [
oo 2 (.asg (.c .nilS)), oo 3 (.asg (ci 4))]
def r_ingotref3_Parse_2 := rg r_ingotref3_Parse_2_o [2, 3]
@[go_sem] theorem r_ingotref3_Parse_2_u : Gr X K s r_ingotref3_Parse_2 r_ingotref3_Parse_2_o [2, 3] := go_region _ _
@[go_sem] def r_ingotref3_Parse_3_o : Ops := [
oo 4 (.asg (.c .nilS))]
def r_ingotref3_Parse_3 := rg r_ingotref3_Parse_3_o [0, 4]
@[go_sem] theorem r_ingotref3_Parse_3_u : Gr X K s r_ingotref3_Parse_3 r_ingotref3_Parse_3_o [0, 4] := go_region _ _
@[go_sem] def r_ingotref3_Parse_4_o : Ops := [
oo 5 (.asg (ci 0))]
def r_ingotref3_Parse_4 := rg r_ingotref3_Parse_4_o [0, 4, 5]
@[go_sem] theorem r_ingotref3_Parse_4_u : Gr X K s r_ingotref3_Parse_4 r_ingotref3_Parse_4_o [0, 4, 5] := go_region _ _
@[go_sem] def r_ingotref3_Parse_5_o : Ops := [
oo 12 (.mv (.t 5)), oo 13 (.mv (.t 0)), oo 14 (.len false (.t 13)), oo 15 (.bin .lss (.t 12) (.t 14))]
def r_ingotref3_Parse_5 := rg r_ingotref3_Parse_5_o [0, 4, 5, 15]
@[go_sem] theorem r_ingotref3_Parse_5_u : Gr X K s r_ingotref3_Parse_5 r_ingotref3_Parse_5_o [0, 4, 5, 15] := go_region _ _
@[go_sem] def r_ingotref3_Parse_6_o : Ops := [
oo 16 (.mv (.t 4)), oo 17 (.len false (.t 16)), oo 18 (.bin .eql (.t 17) (ci 4096))]
def r_ingotref3_Parse_6 := rg r_ingotref3_Parse_6_o [0, 4, 5, 18]
@[go_sem] theorem r_ingotref3_Parse_6_u : Gr X K s r_ingotref3_Parse_6 r_ingotref3_Parse_6_o [0, 4, 5, 18] := go_region _ _
@[go_sem] def r_ingotref3_Parse_7_o : Ops := [
oo 2 (.asg (.c .nilS)), oo 3 (.asg (ci 4))]
def r_ingotref3_Parse_7 := rg r_ingotref3_Parse_7_o [2, 3]
@[go_sem] theorem r_ingotref3_Parse_7_u : Gr X K s r_ingotref3_Parse_7 r_ingotref3_Parse_7_o [2, 3] := go_region _ _
@[go_sem] def r_ingotref3_Parse_8_o : Ops := [
oo 20 (.mv (.t 0)), oo 21 (.mv (.t 5)), oo 22 (.call false n_ingotref3_field [(.t 20), (.t 21)]), oo 19 (.mv (.t 22)), oo 23 (.ext (.t 19) 0), oo 24 (.ext (.t 19) 1), oo 25 (.ext (.t 19) 2), oo 6 (.alloc [(.int .i64 0), (.int .i64 0), (.int .u64 0), .nilS, (.int .i64 0)]), ow (.store 5 (.t 6) (.t 23)), oo 7 (.asg (.t 24)), oo 8 (.asg (.t 25))]
def r_ingotref3_Parse_8 := rg r_ingotref3_Parse_8_o [0, 4, 6, 7, 8]
@[go_sem] theorem r_ingotref3_Parse_8_u : Gr X K s r_ingotref3_Parse_8 r_ingotref3_Parse_8_o [0, 4, 6, 7, 8] := go_region _ _
@[go_sem] def r_ingotref3_Parse_9_o : Ops := [
oo 26 (.mv (.t 8)), oo 27 (.bin .neq (.t 26) (ci 0))]
def r_ingotref3_Parse_9 := rg r_ingotref3_Parse_9_o [0, 4, 6, 7, 8, 27]
@[go_sem] theorem r_ingotref3_Parse_9_u : Gr X K s r_ingotref3_Parse_9 r_ingotref3_Parse_9_o [0, 4, 6, 7, 8, 27] := go_region _ _
@[go_sem] def r_ingotref3_Parse_10_o : Ops := [
oo 28 (.mv (.t 8)), oo 2 (.asg (.c .nilS)), oo 3 (.asg (.t 28))]
def r_ingotref3_Parse_10 := rg r_ingotref3_Parse_10_o [2, 3]
@[go_sem] theorem r_ingotref3_Parse_10_u : Gr X K s r_ingotref3_Parse_10 r_ingotref3_Parse_10_o [2, 3] := go_region _ _
@[go_sem] def r_ingotref3_Parse_11_o : Ops := [
oo 29 (.mv (.t 4)), oo 30 (.load (some 5) (.t 6)), oo 31 (.lit false 5 1 (.agg [(.int .i64 0), (.int .i64 0), (.int .u64 0), (.sl []), (.int .i64 0)]) [(0, (.t 30))]), oo 32 (.append 5 56 (.t 29) (.t 31)), oo 4 (.asg (.t 32))]
def r_ingotref3_Parse_11 := rg r_ingotref3_Parse_11_o [0, 4, 7]
@[go_sem] theorem r_ingotref3_Parse_11_u : Gr X K s r_ingotref3_Parse_11 r_ingotref3_Parse_11_o [0, 4, 7] := go_region _ _
@[go_sem] def r_ingotref3_Parse_12_o : Ops := [
oo 33 (.mv (.t 7)), oo 5 (.asg (.t 33))]
def r_ingotref3_Parse_12 := rg r_ingotref3_Parse_12_o [0, 4, 5]
@[go_sem] theorem r_ingotref3_Parse_12_u : Gr X K s r_ingotref3_Parse_12 r_ingotref3_Parse_12_o [0, 4, 5] := go_region _ _
def b_ingotref3_Parse_13 : ICode := (.seq (.seq r_ingotref3_Parse_5 (.cond (.t 15) .skip (.exit 0))) (.block 1 (.seq (.seq r_ingotref3_Parse_6 (.cond (.t 18) (.seq r_ingotref3_Parse_7 .ret) .skip)) (.seq (.seq (.free 6) r_ingotref3_Parse_8) (.seq (.seq r_ingotref3_Parse_9 (.cond (.t 27) (.seq r_ingotref3_Parse_10 .ret) .skip)) (.seq r_ingotref3_Parse_11 r_ingotref3_Parse_12))))))
@[go_sem] theorem b_ingotref3_Parse_13_u : Gn X K s b_ingotref3_Parse_13 (.seq (.seq r_ingotref3_Parse_5 (.cond (.t 15) .skip (.exit 0))) (.block 1 (.seq (.seq r_ingotref3_Parse_6 (.cond (.t 18) (.seq r_ingotref3_Parse_7 .ret) .skip)) (.seq (.seq (.free 6) r_ingotref3_Parse_8) (.seq (.seq r_ingotref3_Parse_9 (.cond (.t 27) (.seq r_ingotref3_Parse_10 .ret) .skip)) (.seq r_ingotref3_Parse_11 r_ingotref3_Parse_12)))))) := rfl
@[go_sem] def r_ingotref3_Parse_14_o : Ops := [
oo 34 (.mv (.t 4)), oo 2 (.asg (.t 34)), oo 3 (.asg (ci 0))]
def r_ingotref3_Parse_14 := rg r_ingotref3_Parse_14_o [2, 3]
@[go_sem] theorem r_ingotref3_Parse_14_u : Gr X K s r_ingotref3_Parse_14 r_ingotref3_Parse_14_o [2, 3] := go_region _ _
def c_ingotref3_Parse : ICode := (.seq r_ingotref3_Parse_0 (.seq r_ingotref3_Parse_1 (.cond (.t 11) (.seq r_ingotref3_Parse_2 .ret) (.seq r_ingotref3_Parse_3 (.seq r_ingotref3_Parse_4 (.seq (.block 0 (.loop b_ingotref3_Parse_13)) (.seq r_ingotref3_Parse_14 .ret)))))))
def i_ingotref3_Parse : IFunc := ⟨1, [.t 2, .t 3], c_ingotref3_Parse⟩
def a_ingotref3_Parse : Advice := ⟨[32], [(13, [2, 3]), (12, [0, 4, 5]), (11, [0, 4, 7]), (10, [2, 3]), (9, [0, 4, 6, 7, 8, 27]), (8, [0, 4, 6, 7, 8]), (7, [2, 3]), (6, [0, 4, 5, 18]), (5, [0, 4, 5, 15]), (4, [0, 4, 5]), (3, [0, 4]), (2, [2, 3]), (1, [0, 11]), (0, [0])], [], [(8, [6])], [], []⟩
/-! ingot/ingotref22.Decode -/
@[go_sem] def r_ingotref22_Decode_0_o : Ops := [
oo 2 (.alloc [.nilS, .nilS]), oo 3 (.asg (ci 0))]
def r_ingotref22_Decode_0 := rg r_ingotref22_Decode_0_o [0, 2]
@[go_sem] theorem r_ingotref22_Decode_0_u : Gr X K s r_ingotref22_Decode_0 r_ingotref22_Decode_0_o [0, 2] := go_region _ _
@[go_sem] def r_ingotref22_Decode_1_o : Ops := [
oo 18 (.mv (.t 0)), oo 19 (.call false n_ingotref3_Parse [(.t 18)]), oo 17 (.mv (.t 19)), oo 20 (.ext (.t 17) 0), oo 21 (.ext (.t 17) 1), oo 4 (.asg (.t 20)), oo 5 (.asg (.t 21))]
def r_ingotref22_Decode_1 := rg r_ingotref22_Decode_1_o [2, 4, 5]
@[go_sem] theorem r_ingotref22_Decode_1_u : Gr X K s r_ingotref22_Decode_1 r_ingotref22_Decode_1_o [2, 4, 5] := go_region _ _
@[go_sem] def r_ingotref22_Decode_2_o : Ops := [
oo 22 (.mv (.t 5)), oo 23 (.bin .neq (.t 22) (ci 0))]
def r_ingotref22_Decode_2 := rg r_ingotref22_Decode_2_o [2, 4, 5, 23]
@[go_sem] theorem r_ingotref22_Decode_2_u : Gr X K s r_ingotref22_Decode_2 r_ingotref22_Decode_2_o [2, 4, 5, 23] := go_region _ _
@[go_sem] def r_ingotref22_Decode_3_o : Ops := [
oo 24 (.build [(.sl []), (.sl [])] []), oo 25 (.mv (.t 5)), ow (.store 2 (.t 2) (.t 24)), oo 3 (.asg (.t 25))]
def r_ingotref22_Decode_3 := rg r_ingotref22_Decode_3_o [2, 3]
@[go_sem] theorem r_ingotref22_Decode_3_u : Gr X K s r_ingotref22_Decode_3 r_ingotref22_Decode_3_o [2, 3] := go_region _ _
@[go_sem] def r_ingotref22_Decode_4_o : Ops := [
oo 6 (.alloc [.nilS, .nilS])]
def r_ingotref22_Decode_4 := rg r_ingotref22_Decode_4_o [2, 4, 6]
@[go_sem] theorem r_ingotref22_Decode_4_u : Gr X K s r_ingotref22_Decode_4 r_ingotref22_Decode_4_o [2, 4, 6] := go_region _ _
@[go_sem] def r_ingotref22_Decode_5_o : Ops := [
oo 7 (.asg (.c (.bool false)))]
def r_ingotref22_Decode_5 := rg r_ingotref22_Decode_5_o [2, 4, 6, 7]
@[go_sem] theorem r_ingotref22_Decode_5_u : Gr X K s r_ingotref22_Decode_5 r_ingotref22_Decode_5_o [2, 4, 6, 7] := go_region _ _
@[go_sem] def r_ingotref22_Decode_6_o : Ops := [
oo 8 (.asg (ci 0))]
def r_ingotref22_Decode_6 := rg r_ingotref22_Decode_6_o [2, 4, 6, 7, 8]
@[go_sem] theorem r_ingotref22_Decode_6_u : Gr X K s r_ingotref22_Decode_6 r_ingotref22_Decode_6_o [2, 4, 6, 7, 8] := go_region _ _
@[go_sem] def r_ingotref22_Decode_7_o : Ops := [
oo 26 (.mv (.t 8)), oo 27 (.mv (.t 4)), oo 28 (.len false (.t 27)), oo 29 (.bin .lss (.t 26) (.t 28))]
def r_ingotref22_Decode_7 := rg r_ingotref22_Decode_7_o [2, 4, 6, 7, 8, 29]
@[go_sem] theorem r_ingotref22_Decode_7_u : Gr X K s r_ingotref22_Decode_7 r_ingotref22_Decode_7_o [2, 4, 6, 7, 8, 29] := go_region _ _
@[go_sem] def r_ingotref22_Decode_8_o : Ops := [
oo 32 (.mv (.t 4)), oo 33 (.mv (.t 8)), oo 34 (.idxA 5 (.t 32) (.t 33)), oo 35 (.fieldA 1 (.t 34)), oo 36 (.load none (.t 35)), oo 37 (.bin .neq (.t 36) (ci 2)), oo 38 (.mv (.t 37)), og 39 38 false (.mv (.t 4)), og 40 38 false (.mv (.t 8)), og 41 38 false (.idxA 5 (.t 39) (.t 40)), og 42 38 false (.fieldA 0 (.t 41)), og 43 38 false (.load none (.t 42)), og 44 38 false (.bin .lss (.t 43) (ci 1)), oo 45 (.pick (.t 38) (.c (.bool true)) (.t 44)), oo 46 (.mv (.t 45)), og 47 46 false (.mv (.t 4)), og 48 46 false (.mv (.t 8)), og 49 46 false (.idxA 5 (.t 47) (.t 48)), og 50 46 false (.fieldA 0 (.t 49)), og 51 46 false (.load none (.t 50)), og 52 46 false (.bin .gtr (.t 51) (ci 2)), oo 53 (.pick (.t 46) (.c (.bool true)) (.t 52))]
def r_ingotref22_Decode_8 := rg r_ingotref22_Decode_8_o [2, 4, 6, 7, 8, 53]
@[go_sem] theorem r_ingotref22_Decode_8_u : Gr X K s r_ingotref22_Decode_8 r_ingotref22_Decode_8_o [2, 4, 6, 7, 8, 53] := go_region _ _
@[go_sem] def r_ingotref22_Decode_9_o : Ops := [
oo 55 (.mv (.t 4)), oo 56 (.mv (.t 8)), oo 57 (.idxA 5 (.t 55) (.t 56)), oo 58 (.fieldA 3 (.t 57)), oo 59 (.load none (.t 58)), oo 60 (.call false n_ingotref3_Parse [(.t 59)]), oo 54 (.mv (.t 60)), oo 61 (.ext (.t 54) 0), oo 62 (.ext (.t 54) 1), oo 9 (.asg (.t 61)), oo 10 (.asg (.t 62))]
def r_ingotref22_Decode_9 := rg r_ingotref22_Decode_9_o [2, 4, 6, 7, 8, 9, 10]
@[go_sem] theorem r_ingotref22_Decode_9_u : Gr X K s r_ingotref22_Decode_9 r_ingotref22_Decode_9_o [2, 4, 6, 7, 8, 9, 10] := go_region _ _
@[go_sem] def r_ingotref22_Decode_10_o : Ops := [
oo 63 (.mv (.t 10)), oo 64 (.bin .neq (.t 63) (ci 0))]
def r_ingotref22_Decode_10 := rg r_ingotref22_Decode_10_o [2, 4, 6, 7, 8, 9, 10, 64]
@[go_sem] theorem r_ingotref22_Decode_10_u : Gr X K s r_ingotref22_Decode_10 r_ingotref22_Decode_10_o [2, 4, 6, 7, 8, 9, 10, 64] := go_region _ _
@[go_sem] def r_ingotref22_Decode_11_o : Ops := [
oo 65 (.build [(.sl []), (.sl [])] []), oo 66 (.mv (.t 10)), ow (.store 2 (.t 2) (.t 65)), oo 3 (.asg (.t 66))]
def r_ingotref22_Decode_11 := rg r_ingotref22_Decode_11_o [2, 3]
@[go_sem] theorem r_ingotref22_Decode_11_u : Gr X K s r_ingotref22_Decode_11 r_ingotref22_Decode_11_o [2, 3] := go_region _ _
@[go_sem] def r_ingotref22_Decode_12_o : Ops := [
oo 68 (.mv (.t 9)), oo 69 (.call false n_ingotref3_Uint [(.t 68), (ci 1)]), oo 67 (.mv (.t 69)), oo 70 (.ext (.t 67) 0), oo 71 (.ext (.t 67) 1), oo 11 (.asg (.t 70)), oo 12 (.asg (.t 71))]
def r_ingotref22_Decode_12 := rg r_ingotref22_Decode_12_o [2, 4, 6, 7, 8, 9, 11]
@[go_sem] theorem r_ingotref22_Decode_12_u : Gr X K s r_ingotref22_Decode_12 r_ingotref22_Decode_12_o [2, 4, 6, 7, 8, 9, 11] := go_region _ _
@[go_sem] def r_ingotref22_Decode_13_o : Ops := [
oo 73 (.mv (.t 9)), oo 74 (.call false n_ingotref3_Uint [(.t 73), (ci 2)]), oo 72 (.mv (.t 74)), oo 75 (.ext (.t 72) 0), oo 76 (.ext (.t 72) 1), oo 13 (.asg (.t 75)), oo 14 (.asg (.t 76))]
def r_ingotref22_Decode_13 := rg r_ingotref22_Decode_13_o [2, 4, 6, 7, 8, 9, 11, 13]
@[go_sem] theorem r_ingotref22_Decode_13_u : Gr X K s r_ingotref22_Decode_13 r_ingotref22_Decode_13_o [2, 4, 6, 7, 8, 9, 11, 13] := go_region _ _
@[go_sem] def r_ingotref22_Decode_14_o : Ops := [
oo 78 (.mv (.t 9)), oo 79 (.call false n_ingotref3_Uint [(.t 78), (ci 3)]), oo 77 (.mv (.t 79)), oo 80 (.ext (.t 77) 0), oo 81 (.ext (.t 77) 1), oo 15 (.asg (.t 80)), oo 16 (.asg (.t 81))]
def r_ingotref22_Decode_14 := rg r_ingotref22_Decode_14_o [2, 4, 6, 7, 8, 11, 13, 15]
@[go_sem] theorem r_ingotref22_Decode_14_u : Gr X K s r_ingotref22_Decode_14 r_ingotref22_Decode_14_o [2, 4, 6, 7, 8, 11, 13, 15] := go_region _ _
@[go_sem] def r_ingotref22_Decode_15_o : Ops := [
oo 82 (.mv (.t 4)), oo 83 (.mv (.t 8)), oo 84 (.idxA 5 (.t 82) (.t 83)), oo 85 (.fieldA 0 (.t 84)), oo 86 (.load none (.t 85)), oo 87 (.bin .eql (.t 86) (ci 2))]
def r_ingotref22_Decode_15 := rg r_ingotref22_Decode_15_o [2, 4, 6, 7, 8, 11, 13, 15, 87]
@[go_sem] theorem r_ingotref22_Decode_15_u : Gr X K s r_ingotref22_Decode_15 r_ingotref22_Decode_15_o [2, 4, 6, 7, 8, 11, 13, 15, 87] := go_region _ _
@[go_sem] def r_ingotref22_Decode_16_o : Ops := [
oo 15 (.asg (.c (.int .u64 0)))]
def r_ingotref22_Decode_16 := rg r_ingotref22_Decode_16_o [2, 4, 6, 7, 8, 11, 13, 15]
@[go_sem] theorem r_ingotref22_Decode_16_u : Gr X K s r_ingotref22_Decode_16 r_ingotref22_Decode_16_o [2, 4, 6, 7, 8, 11, 13, 15] := go_region _ _
@[go_sem] def r_ingotref22_Decode_17_o : Ops := [
oo 88 (.mv (.t 11)), oo 89 (.bin .gtr (.t 88) (.c (.int .u64 262144))), oo 90 (.mv (.t 89)), og 91 90 false (.mv (.t 13)), og 92 90 false (.bin .gtr (.t 91) (.c (.int .u64 262144))), oo 93 (.pick (.t 90) (.c (.bool true)) (.t 92)), oo 94 (.mv (.t 93)), og 95 94 false (.mv (.t 15)), og 96 94 false (.bin .gtr (.t 95) (.c (.int .u64 262144))), oo 97 (.pick (.t 94) (.c (.bool true)) (.t 96))]
def r_ingotref22_Decode_17 := rg r_ingotref22_Decode_17_o [2, 4, 6, 7, 8, 11, 13, 15, 97]
@[go_sem] theorem r_ingotref22_Decode_17_u : Gr X K s r_ingotref22_Decode_17 r_ingotref22_Decode_17_o [2, 4, 6, 7, 8, 11, 13, 15, 97] := go_region _ _
@[go_sem] def r_ingotref22_Decode_18_o : Ops := [
oo 7 (.asg (.c (.bool true)))]
def r_ingotref22_Decode_18 := rg r_ingotref22_Decode_18_o [2, 4, 6, 7, 8]
@[go_sem] theorem r_ingotref22_Decode_18_u : Gr X K s r_ingotref22_Decode_18 r_ingotref22_Decode_18_o [2, 4, 6, 7, 8] := go_region _ _
@[go_sem] def r_ingotref22_Decode_19_o : Ops := [
oo 98 (.mv (.t 4)), oo 99 (.mv (.t 8)), oo 100 (.idxA 5 (.t 98) (.t 99)), oo 101 (.fieldA 0 (.t 100)), oo 102 (.load none (.t 101)), oo 103 (.bin .eql (.t 102) (ci 1))]
def r_ingotref22_Decode_19 := rg r_ingotref22_Decode_19_o [2, 4, 6, 7, 8, 11, 13, 15, 103]
@[go_sem] theorem r_ingotref22_Decode_19_u : Gr X K s r_ingotref22_Decode_19 r_ingotref22_Decode_19_o [2, 4, 6, 7, 8, 11, 13, 15, 103] := go_region _ _
@[go_sem] def r_ingotref22_Decode_20_o : Ops := [
oo 104 (.fieldA 0 (.t 6)), oo 105 (.load none (.t 104)), oo 106 (.mv (.t 11)), oo 107 (.cvInt .i64 (.t 106)), oo 108 (.mv (.t 13)), oo 109 (.cvInt .i64 (.t 108)), oo 110 (.mv (.t 15)), oo 111 (.cvInt .i64 (.t 110)), oo 112 (.build [(.int .i64 0), (.int .i64 0), (.int .i64 0)] [(0, 1, (.t 107)), (1, 1, (.t 109)), (2, 1, (.t 111))]), oo 113 (.lit false 3 1 (.agg [(.int .i64 0), (.int .i64 0), (.int .i64 0)]) [(0, (.t 112))]), oo 114 (.append 3 24 (.t 105) (.t 113)), oo 115 (.fieldA 0 (.t 6)), ow (.store 1 (.t 115) (.t 114))]
def r_ingotref22_Decode_20 := rg r_ingotref22_Decode_20_o [2, 4, 6, 7, 8]
@[go_sem] theorem r_ingotref22_Decode_20_u : Gr X K s r_ingotref22_Decode_20 r_ingotref22_Decode_20_o [2, 4, 6, 7, 8] := go_region _ _
@[go_sem] def r_ingotref22_Decode_21_o : Ops := [
oo 116 (.fieldA 1 (.t 6)), oo 117 (.load none (.t 116)), oo 118 (.mv (.t 11)), oo 119 (.cvInt .i64 (.t 118)), oo 120 (.mv (.t 13)), oo 121 (.cvInt .i64 (.t 120)), oo 122 (.build [(.int .i64 0), (.int .i64 0)] [(0, 1, (.t 119)), (1, 1, (.t 121))]), oo 123 (.lit false 2 1 (.agg [(.int .i64 0), (.int .i64 0)]) [(0, (.t 122))]), oo 124 (.append 2 16 (.t 117) (.t 123)), oo 125 (.fieldA 1 (.t 6)), ow (.store 1 (.t 125) (.t 124))]
def r_ingotref22_Decode_21 := rg r_ingotref22_Decode_21_o [2, 4, 6, 7, 8]
@[go_sem] theorem r_ingotref22_Decode_21_u : Gr X K s r_ingotref22_Decode_21 r_ingotref22_Decode_21_o [2, 4, 6, 7, 8] := go_region _ _
@[go_sem] def r_ingotref22_Decode_22_o : Ops := [
oo 30 (.mv (.t 8)), oo 31 (.bin .add (.t 30) (ci 1)), oo 8 (.asg (.t 31))]
def r_ingotref22_Decode_22 := rg r_ingotref22_Decode_22_o [2, 4, 6, 7, 8]
@[go_sem] theorem r_ingotref22_Decode_22_u : Gr X K s r_ingotref22_Decode_22 r_ingotref22_Decode_22_o [2, 4, 6, 7, 8] := go_region _ _
def b_ingotref22_Decode_23 : ICode := (.seq (.seq r_ingotref22_Decode_7 (.cond (.t 29) .skip (.exit 0))) (.seq (.block 1 (.seq (.seq r_ingotref22_Decode_8 (.cond (.t 53) (.exit 1) .skip)) (.seq r_ingotref22_Decode_9 (.seq (.seq r_ingotref22_Decode_10 (.cond (.t 64) (.seq r_ingotref22_Decode_11 .ret) .skip)) (.seq r_ingotref22_Decode_12 (.seq r_ingotref22_Decode_13 (.seq r_ingotref22_Decode_14 (.seq (.seq r_ingotref22_Decode_15 (.cond (.t 87) r_ingotref22_Decode_16 .skip)) (.seq (.seq r_ingotref22_Decode_17 (.cond (.t 97) (.seq r_ingotref22_Decode_18 (.exit 1)) .skip)) (.seq r_ingotref22_Decode_19 (.cond (.t 103) r_ingotref22_Decode_20 r_ingotref22_Decode_21))))))))))) r_ingotref22_Decode_22))
@[go_sem] theorem b_ingotref22_Decode_23_u : Gn X K s b_ingotref22_Decode_23 (.seq (.seq r_ingotref22_Decode_7 (.cond (.t 29) .skip (.exit 0))) (.seq (.block 1 (.seq (.seq r_ingotref22_Decode_8 (.cond (.t 53) (.exit 1) .skip)) (.seq r_ingotref22_Decode_9 (.seq (.seq r_ingotref22_Decode_10 (.cond (.t 64) (.seq r_ingotref22_Decode_11 .ret) .skip)) (.seq r_ingotref22_Decode_12 (.seq r_ingotref22_Decode_13 (.seq r_ingotref22_Decode_14 (.seq (.seq r_ingotref22_Decode_15 (.cond (.t 87) r_ingotref22_Decode_16 .skip)) (.seq (.seq r_ingotref22_Decode_17 (.cond (.t 97) (.seq r_ingotref22_Decode_18 (.exit 1)) .skip)) (.seq r_ingotref22_Decode_19 (.cond (.t 103) r_ingotref22_Decode_20 r_ingotref22_Decode_21))))))))))) r_ingotref22_Decode_22)) := rfl
@[go_sem] def r_ingotref22_Decode_24_o : Ops := [
oo 126 (.mv (.t 7)), oo 127 (.mv (.t 126)), og 128 127 false (.fieldA 0 (.t 6)), og 129 127 false (.load none (.t 128)), og 130 127 false (.len false (.t 129)), og 131 127 false (.bin .gtr (.t 130) (ci 800)), oo 132 (.pick (.t 127) (.c (.bool true)) (.t 131)), oo 133 (.mv (.t 132)), og 134 133 false (.fieldA 1 (.t 6)), og 135 133 false (.load none (.t 134)), og 136 133 false (.len false (.t 135)), og 137 133 false (.bin .gtr (.t 136) (ci 100)), oo 138 (.pick (.t 133) (.c (.bool true)) (.t 137))]
def r_ingotref22_Decode_24 := rg r_ingotref22_Decode_24_o [2, 6, 138]
@[go_sem] theorem r_ingotref22_Decode_24_u : Gr X K s r_ingotref22_Decode_24 r_ingotref22_Decode_24_o [2, 6, 138] := go_region _ _
@[go_sem] def r_ingotref22_Decode_25_o : Ops := [
oo 139 (.build [(.sl []), (.sl [])] []), ow (.store 2 (.t 2) (.t 139)), oo 3 (.asg (ci 2))]
def r_ingotref22_Decode_25 := rg r_ingotref22_Decode_25_o [2, 3]
@[go_sem] theorem r_ingotref22_Decode_25_u : Gr X K s r_ingotref22_Decode_25 r_ingotref22_Decode_25_o [2, 3] := go_region _ _
@[go_sem] def r_ingotref22_Decode_26_o : Ops := [
oo 140 (.load (some 2) (.t 6)), ow (.store 2 (.t 2) (.t 140)), oo 3 (.asg (ci 0))]
def r_ingotref22_Decode_26 := rg r_ingotref22_Decode_26_o [2, 3]
@[go_sem] theorem r_ingotref22_Decode_26_u : Gr X K s r_ingotref22_Decode_26 r_ingotref22_Decode_26_o [2, 3] := go_region _ _
def c_ingotref22_Decode : ICode := (.seq r_ingotref22_Decode_0 (.seq r_ingotref22_Decode_1 (.seq r_ingotref22_Decode_2 (.cond (.t 23) (.seq r_ingotref22_Decode_3 .ret) (.seq r_ingotref22_Decode_4 (.seq r_ingotref22_Decode_5 (.seq (.seq r_ingotref22_Decode_6 (.block 0 (.loop b_ingotref22_Decode_23))) (.seq r_ingotref22_Decode_24 (.cond (.t 138) (.seq r_ingotref22_Decode_25 .ret) (.seq r_ingotref22_Decode_26 .ret))))))))))
def i_ingotref22_Decode : IFunc := ⟨1, [.cell 2 (some 2), .t 3], c_ingotref22_Decode⟩
def a_ingotref22_Decode : Advice := ⟨[114, 124], [(25, [2, 3]), (24, [2, 3]), (23, [2, 6, 138]), (8, [2, 4, 6, 7, 8]), (21, [2, 4, 6, 7, 8]), (22, [2, 4, 6, 7, 8]), (20, [2, 4, 6, 7, 8, 11, 13, 15, 103]), (19, [2, 4, 6, 7, 8]), (18, [2, 4, 6, 7, 8, 11, 13, 15, 97]), (17, [2, 4, 6, 7, 8, 11, 13, 15]), (16, [2, 4, 6, 7, 8, 11, 13, 15, 87]), (15, [2, 4, 6, 7, 8, 11, 13, 15]), (14, [2, 4, 6, 7, 8, 9, 11, 13]), (13, [2, 4, 6, 7, 8, 9, 11]), (12, [2, 3]), (11, [2, 4, 6, 7, 8, 9, 10, 64]), (10, [2, 4, 6, 7, 8, 9, 10]), (9, [2, 4, 6, 7, 8, 53]), (7, [2, 4, 6, 7, 8, 29]), (6, [2, 4, 6, 7, 8]), (5, [2, 4, 6, 7]), (4, [2, 4, 6]), (3, [2, 3]), (2, [2, 4, 5, 23]), (1, [2, 4, 5]), (0, [0, 2])], [], [], [], []⟩
/-! ingot/nums.Zag -/
@[go_sem] def r_nums_Zag_0_o : Ops := [
oo 2 (.asg (ci 0))]
def r_nums_Zag_0 := rg r_nums_Zag_0_o [0]
@[go_sem] theorem r_nums_Zag_0_u : Gr X K s r_nums_Zag_0 r_nums_Zag_0_o [0] := go_region _ _
@[go_sem] def r_nums_Zag_1_o : Ops := [
oo 3 (.mv (.t 0)), oo 4 (.bin .shr (.t 3) (.c (.int .u64 1))), oo 5 (.cvInt .i64 (.t 4)), oo 6 (.mv (.t 0)), oo 7 (.bin .and (.t 6) (.c (.int .u64 1))), oo 8 (.cvInt .i64 (.t 7)), oo 9 (.un .neg (.t 8)), oo 10 (.bin .xor (.t 5) (.t 9)), oo 2 (.asg (.t 10))]
def r_nums_Zag_1 := rg r_nums_Zag_1_o [2]
@[go_sem] theorem r_nums_Zag_1_u : Gr X K s r_nums_Zag_1 r_nums_Zag_1_o [2] := go_region _ _
def c_nums_Zag : ICode := (.seq r_nums_Zag_0 (.seq r_nums_Zag_1 .ret))
def i_nums_Zag : IFunc := ⟨1, [.t 2], c_nums_Zag⟩
def a_nums_Zag : Advice := ⟨[], [(1, [2]), (0, [0])], [], [], [], []⟩
/-! ingot/nums.Zig -/
@[go_sem] def r_nums_Zig_0_o : Ops := [
oo 2 (.asg (.c (.int .u64 0)))]
def r_nums_Zig_0 := rg r_nums_Zig_0_o [0]
@[go_sem] theorem r_nums_Zig_0_u : Gr X K s r_nums_Zig_0 r_nums_Zig_0_o [0] := go_region _ _
@[go_sem] def r_nums_Zig_1_o : Ops := [
oo 3 (.mv (.t 0)), oo 4 (.cvInt .u64 (.t 3)), oo 5 (.bin .shl (.t 4) (.c (.int .u64 1))), oo 6 (.mv (.t 0)), oo 7 (.bin .shr (.t 6) (.c (.int .u64 63))), oo 8 (.cvInt .u64 (.t 7)), oo 9 (.bin .xor (.t 5) (.t 8)), oo 2 (.asg (.t 9))]
def r_nums_Zig_1 := rg r_nums_Zig_1_o [2]
@[go_sem] theorem r_nums_Zig_1_u : Gr X K s r_nums_Zig_1 r_nums_Zig_1_o [2] := go_region _ _
def c_nums_Zig : ICode := (.seq r_nums_Zig_0 (.seq r_nums_Zig_1 .ret))
def i_nums_Zig : IFunc := ⟨1, [.t 2], c_nums_Zig⟩
def a_nums_Zig : Advice := ⟨[], [(1, [2]), (0, [0])], [], [], [], []⟩
/-! ingot/pb.last -/
@[go_sem] def r_pb_last_0_o : Ops := [
oo 4 (.box 1 (.t 1)), oo 5 (.box 1 (.t 2)), oo 6 (.alloc [(.int .i64 0), (.int .i64 0), (.int .u64 0), .nilS, (.int .i64 0)]), oo 7 (.alloc [(.bool false)])]
def r_pb_last_0 := rg r_pb_last_0_o [0, 4, 5, 6, 7]
@[go_sem] theorem r_pb_last_0_u : Gr X K s r_pb_last_0 r_pb_last_0_o [0, 4, 5, 6, 7] := go_region _ _
@[go_sem] def r_pb_last_1_o : Ops := [
oo 10 (.mv (.t 0)), oo 11 (.call false n_slices_Backward_Spb_Field_pb_Field [(.t 10)])]
def r_pb_last_1 := rg r_pb_last_1_o [4, 5, 6, 7, 11]
@[go_sem] theorem r_pb_last_1_u : Gr X K s r_pb_last_1 r_pb_last_1_o [4, 5, 6, 7, 11] := go_region _ _
@[go_sem] def r_pb_last_2_o : Ops := [
oo 9 (.alloc [(.int .i64 0), (.int .i64 0), (.int .u64 0), .nilS, (.int .i64 0)]), ow (.store 5 (.t 9) (.t 13))]
def r_pb_last_2 := rg r_pb_last_2_o [4, 5, 6, 7, 9]
@[go_sem] theorem r_pb_last_2_u : Gr X K s r_pb_last_2 r_pb_last_2_o [4, 5, 6, 7, 9] := go_region _ _
def b_pb_last_3 : ICode := r_pb_last_2
@[go_sem] theorem b_pb_last_3_u : Gn X K s b_pb_last_3 r_pb_last_2 := rfl
@[go_sem] def r_pb_last_4_o : Ops := [
oo 14 (.fieldA 0 (.t 9)), oo 15 (.load none (.t 14)), oo 16 (.load none (.t 4)), oo 17 (.bin .eql (.t 15) (.t 16)), oo 18 (.mv (.t 17)), og 19 18 true (.fieldA 1 (.t 9)), og 20 18 true (.load none (.t 19)), og 21 18 true (.load none (.t 5)), og 22 18 true (.bin .eql (.t 20) (.t 21)), oo 23 (.pick (.t 18) (.t 22) (.c (.bool false)))]
def r_pb_last_4 := rg r_pb_last_4_o [6, 7, 9, 23]
@[go_sem] theorem r_pb_last_4_u : Gr X K s r_pb_last_4 r_pb_last_4_o [6, 7, 9, 23] := go_region _ _
@[go_sem] def r_pb_last_5_o : Ops := [
oo 24 (.load (some 5) (.t 9)), ow (.store 5 (.t 6) (.t 24)), ow (.store 1 (.t 7) (.c (.bool true)))]
def r_pb_last_5 := rg r_pb_last_5_o [6, 7]
@[go_sem] theorem r_pb_last_5_u : Gr X K s r_pb_last_5 r_pb_last_5_o [6, 7] := go_region _ _
def b_pb_last_6 : ICode := (.block 1 (.seq r_pb_last_4 (.cond (.t 23) (.seq r_pb_last_5 .ret) .skip)))
@[go_sem] theorem b_pb_last_6_u : Gn X K s b_pb_last_6 (.block 1 (.seq r_pb_last_4 (.cond (.t 23) (.seq r_pb_last_5 .ret) .skip))) := rfl
@[go_sem] def r_pb_last_7_o : Ops := [
oo 25 (.build [(.int .i64 0), (.int .i64 0), (.int .u64 0), (.sl []), (.int .i64 0)] []), ow (.store 5 (.t 6) (.t 25)), ow (.store 1 (.t 7) (.c (.bool false)))]
def r_pb_last_7 := rg r_pb_last_7_o [6, 7]
@[go_sem] theorem r_pb_last_7_u : Gr X K s r_pb_last_7 r_pb_last_7_o [6, 7] := go_region _ _
def c_pb_last : ICode := (.seq r_pb_last_0 (.seq (.seq r_pb_last_1 (.block 0 (.each (.t 11) [12, 13] b_pb_last_3 b_pb_last_6))) (.seq r_pb_last_7 .ret)))
def i_pb_last : IFunc := ⟨3, [.cell 6 (some 5), .cell 7 none], c_pb_last⟩
def a_pb_last : Advice := ⟨[], [(5, [6, 7]), (4, [6, 7]), (3, [6, 7, 9, 23]), (2, [4, 5, 6, 7, 9]), (1, [4, 5, 6, 7, 11]), (0, [0, 4, 5, 6, 7])], [], [], [], []⟩
/-! ingot/pb.Uint -/
@[go_sem] def r_pb_Uint_0_o : Ops := [
oo 4 (.asg (.c (.int .u64 0))), oo 5 (.asg (.c (.bool false)))]
def r_pb_Uint_0 := rg r_pb_Uint_0_o [0, 1]
@[go_sem] theorem r_pb_Uint_0_u : Gr X K s r_pb_Uint_0 r_pb_Uint_0_o [0, 1] := go_region _ _
@[go_sem] def r_pb_Uint_1_o : Ops := [
oo 9 (.mv (.t 0)), oo 10 (.mv (.t 1)), oo 11 (.call false n_pb_last [(.t 9), (.t 10), (ci 0)]), oo 8 (.mv (.t 11)), oo 12 (.ext (.t 8) 0), oo 13 (.ext (.t 8) 1), oo 6 (.alloc [(.int .i64 0), (.int .i64 0), (.int .u64 0), .nilS, (.int .i64 0)]), ow (.store 5 (.t 6) (.t 12)), oo 7 (.asg (.t 13))]
def r_pb_Uint_1 := rg r_pb_Uint_1_o [6, 7]
@[go_sem] theorem r_pb_Uint_1_u : Gr X K s r_pb_Uint_1 r_pb_Uint_1_o [6, 7] := go_region _ _
@[go_sem] def r_pb_Uint_2_o : Ops := [
oo 14 (.fieldA 2 (.t 6)), oo 15 (.load none (.t 14)), oo 16 (.mv (.t 7)), oo 4 (.asg (.t 15)), oo 5 (.asg (.t 16))]
def r_pb_Uint_2 := rg r_pb_Uint_2_o [4, 5]
@[go_sem] theorem r_pb_Uint_2_u : Gr X K s r_pb_Uint_2 r_pb_Uint_2_o [4, 5] := go_region _ _
def c_pb_Uint : ICode := (.seq r_pb_Uint_0 (.seq r_pb_Uint_1 (.seq r_pb_Uint_2 .ret)))
def i_pb_Uint : IFunc := ⟨2, [.t 4, .t 5], c_pb_Uint⟩
def a_pb_Uint : Advice := ⟨[], [(2, [4, 5]), (1, [6, 7]), (0, [0, 1])], [], [], [], []⟩
/-! ingot/nums.Var -/
@[go_sem] def r_nums_Var_0_o : Ops := [
oo 4 (.asg (.c (.int .u64 0))), oo 5 (.asg (ci 0)), oo 6 (.asg (ci 0))]
def r_nums_Var_0 := rg r_nums_Var_0_o [0, 1, 4]
@[go_sem] theorem r_nums_Var_0_u : Gr X K s r_nums_Var_0 r_nums_Var_0_o [0, 1, 4] := go_region _ _
@[go_sem] def r_nums_Var_1_o : Ops := [
oo 9 (.mv (.t 1)), oo 10 (.bin .lss (.t 9) (ci 0)), oo 11 (.mv (.t 10)), og 12 11 false (.mv (.t 1)), og 13 11 false (.mv (.t 0)), og 14 11 false (.len false (.t 13)), og 15 11 false (.bin .gtr (.t 12) (.t 14)), oo 16 (.pick (.t 11) (.c (.bool true)) (.t 15))]
def r_nums_Var_1 := rg r_nums_Var_1_o [0, 1, 4, 16]
@[go_sem] theorem r_nums_Var_1_u : Gr X K s r_nums_Var_1 r_nums_Var_1_o [0, 1, 4, 16] := go_region _ _
@[go_sem] def r_nums_Var_2_o : Ops := [
oo 4 (.asg (.c (.int .u64 0))), oo 5 (.asg (ci 0)), oo 6 (.asg (ci 1))]
def r_nums_Var_2 := rg r_nums_Var_2_o [4, 5, 6]
@[go_sem] theorem r_nums_Var_2_u : Gr X K s r_nums_Var_2 r_nums_Var_2_o [4, 5, 6] := go_region _ _
@[go_sem] def r_nums_Var_3_o : Ops := [
oo 17 (.mv (.t 0)), oo 18 (.mv (.t 1)), oo 19 (.slice 1 (.t 17) (some (.t 18)) none none), oo 20 (.len false (.t 19)), oo 21 (.mv (ci 0))]
def r_nums_Var_3 := rg r_nums_Var_3_o [4, 19, 20, 21]
@[go_sem] theorem r_nums_Var_3_u : Gr X K s r_nums_Var_3 r_nums_Var_3_o [4, 19, 20, 21] := go_region _ _
@[go_sem] def r_nums_Var_4_o : Ops := [
oo 22 (.bin .lss (.t 21) (.t 20))]
def r_nums_Var_4 := rg r_nums_Var_4_o [4, 19, 20, 21, 22]
@[go_sem] theorem r_nums_Var_4_u : Gr X K s r_nums_Var_4 r_nums_Var_4_o [4, 19, 20, 21, 22] := go_region _ _
@[go_sem] def r_nums_Var_5_o : Ops := [
oo 23 (.mv (.t 21)), oo 24 (.idxA 1 (.t 19) (.t 21)), oo 25 (.load none (.t 24)), oo 7 (.asg (.t 23)), oo 8 (.asg (.t 25))]
def r_nums_Var_5 := rg r_nums_Var_5_o [4, 7, 8, 19, 20, 21]
@[go_sem] theorem r_nums_Var_5_u : Gr X K s r_nums_Var_5 r_nums_Var_5_o [4, 7, 8, 19, 20, 21] := go_region _ _
@[go_sem] def r_nums_Var_6_o : Ops := [
oo 26 (.mv (.t 7)), oo 27 (.bin .eql (.t 26) (ci 9)), oo 28 (.mv (.t 27)), og 29 28 true (.mv (.t 8)), og 30 28 true (.bin .gtr (.t 29) (.c (.int .u8 1))), oo 31 (.pick (.t 28) (.t 30) (.c (.bool false)))]
def r_nums_Var_6 := rg r_nums_Var_6_o [4, 7, 8, 19, 20, 21, 31]
@[go_sem] theorem r_nums_Var_6_u : Gr X K s r_nums_Var_6 r_nums_Var_6_o [4, 7, 8, 19, 20, 21, 31] := go_region _ _
@[go_sem] def r_nums_Var_7_o : Ops := [
oo 4 (.asg (.c (.int .u64 0))), oo 5 (.asg (ci 0)), oo 6 (.asg (ci 4))]
def r_nums_Var_7 := rg r_nums_Var_7_o [4, 5, 6]
@[go_sem] theorem r_nums_Var_7_u : Gr X K s r_nums_Var_7 r_nums_Var_7_o [4, 5, 6] := go_region _ _
@[go_sem] def r_nums_Var_8_o : Ops := [
oo 32 (.mv (.t 4)), oo 33 (.mv (.t 8)), oo 34 (.bin .andNot (.t 33) (.c (.int .u8 128))), oo 35 (.cvInt .u64 (.t 34)), oo 36 (.mv (.t 7)), oo 37 (.bin .mul (ci 7) (.t 36)), oo 38 (.bin .shl (.t 35) (.t 37)), oo 39 (.bin .or (.t 32) (.t 38)), oo 4 (.asg (.t 39))]
def r_nums_Var_8 := rg r_nums_Var_8_o [4, 7, 8, 19, 20, 21]
@[go_sem] theorem r_nums_Var_8_u : Gr X K s r_nums_Var_8 r_nums_Var_8_o [4, 7, 8, 19, 20, 21] := go_region _ _
@[go_sem] def r_nums_Var_9_o : Ops := [
oo 40 (.mv (.t 8)), oo 41 (.bin .lss (.t 40) (.c (.int .u8 128)))]
def r_nums_Var_9 := rg r_nums_Var_9_o [4, 7, 19, 20, 21, 41]
@[go_sem] theorem r_nums_Var_9_u : Gr X K s r_nums_Var_9 r_nums_Var_9_o [4, 7, 19, 20, 21, 41] := go_region _ _
@[go_sem] def r_nums_Var_10_o : Ops := [
oo 42 (.mv (.t 4)), oo 43 (.mv (.t 7)), oo 44 (.bin .add (.t 43) (ci 1)), oo 4 (.asg (.t 42)), oo 5 (.asg (.t 44)), oo 6 (.asg (ci 0))]
def r_nums_Var_10 := rg r_nums_Var_10_o [4, 5, 6]
@[go_sem] theorem r_nums_Var_10_u : Gr X K s r_nums_Var_10 r_nums_Var_10_o [4, 5, 6] := go_region _ _
@[go_sem] def r_nums_Var_11_o : Ops := [
oo 45 (.bin .add (.t 21) (ci 1)), oo 21 (.mv (.t 45))]
def r_nums_Var_11 := rg r_nums_Var_11_o [4, 19, 20, 21]
@[go_sem] theorem r_nums_Var_11_u : Gr X K s r_nums_Var_11 r_nums_Var_11_o [4, 19, 20, 21] := go_region _ _
def b_nums_Var_12 : ICode := (.seq r_nums_Var_4 (.seq (.cond (.t 22) .skip (.exit 0)) (.seq (.block 1 (.seq r_nums_Var_5 (.seq (.seq r_nums_Var_6 (.cond (.t 31) (.seq r_nums_Var_7 .ret) .skip)) (.seq r_nums_Var_8 (.seq r_nums_Var_9 (.cond (.t 41) (.seq r_nums_Var_10 .ret) .skip)))))) r_nums_Var_11)))
@[go_sem] theorem b_nums_Var_12_u : Gn X K s b_nums_Var_12 (.seq r_nums_Var_4 (.seq (.cond (.t 22) .skip (.exit 0)) (.seq (.block 1 (.seq r_nums_Var_5 (.seq (.seq r_nums_Var_6 (.cond (.t 31) (.seq r_nums_Var_7 .ret) .skip)) (.seq r_nums_Var_8 (.seq r_nums_Var_9 (.cond (.t 41) (.seq r_nums_Var_10 .ret) .skip)))))) r_nums_Var_11))) := rfl
@[go_sem] def r_nums_Var_13_o : Ops := [
oo 4 (.asg (.c (.int .u64 0))), oo 5 (.asg (ci 0)), oo 6 (.asg (ci 3))]
def r_nums_Var_13 := rg r_nums_Var_13_o [4, 5, 6]
@[go_sem] theorem r_nums_Var_13_u : Gr X K s r_nums_Var_13 r_nums_Var_13_o [4, 5, 6] := go_region _ _
def c_nums_Var : ICode := (.seq r_nums_Var_0 (.seq r_nums_Var_1 (.cond (.t 16) (.seq r_nums_Var_2 .ret) (.seq (.seq r_nums_Var_3 (.block 0 (.loop b_nums_Var_12))) (.seq r_nums_Var_13 .ret)))))
def i_nums_Var : IFunc := ⟨2, [.t 4, .t 5, .t 6], c_nums_Var⟩
def a_nums_Var : Advice := ⟨[], [(12, [4, 5, 6]), (11, [4, 19, 20, 21]), (10, [4, 5, 6]), (9, [4, 7, 19, 20, 21, 41]), (8, [4, 7, 8, 19, 20, 21]), (7, [4, 5, 6]), (6, [4, 7, 8, 19, 20, 21, 31]), (5, [4, 7, 8, 19, 20, 21]), (4, [4, 19, 20, 21, 22]), (3, [4, 19, 20, 21]), (2, [4, 5, 6]), (1, [0, 1, 4, 16]), (0, [0, 1, 4])], [], [], [], []⟩
/-! ingot/pb.field -/
@[go_sem] def r_pb_field_0_o : Ops := [
oo 4 (.alloc [(.int .i64 0), (.int .i64 0), (.int .u64 0), .nilS, (.int .i64 0)]), oo 5 (.asg (ci 0)), oo 6 (.asg (ci 0))]
def r_pb_field_0 := rg r_pb_field_0_o [0, 1, 4]
@[go_sem] theorem r_pb_field_0_u : Gr X K s r_pb_field_0 r_pb_field_0_o [0, 1, 4] := go_region _ _
@[go_sem] def r_pb_field_1_o : Ops := [
oo 18 (.mv (.t 0)), oo 19 (.mv (.t 1)), oo 20 (.call false n_nums_Var [(.t 18), (.t 19)]), oo 17 (.mv (.t 20)), oo 21 (.ext (.t 17) 0), oo 22 (.ext (.t 17) 1), oo 23 (.ext (.t 17) 2), oo 7 (.asg (.t 21)), oo 8 (.asg (.t 22)), oo 9 (.asg (.t 23))]
def r_pb_field_1 := rg r_pb_field_1_o [0, 1, 4, 7, 8, 9]
@[go_sem] theorem r_pb_field_1_u : Gr X K s r_pb_field_1 r_pb_field_1_o [0, 1, 4, 7, 8, 9] := go_region _ _
@[go_sem] def r_pb_field_2_o : Ops := [
oo 24 (.mv (.t 9)), oo 25 (.bin .neq (.t 24) (ci 0))]
def r_pb_field_2 := rg r_pb_field_2_o [0, 1, 4, 7, 8, 9, 25]
@[go_sem] theorem r_pb_field_2_u : Gr X K s r_pb_field_2 r_pb_field_2_o [0, 1, 4, 7, 8, 9, 25] := go_region _ _
@[go_sem] def r_pb_field_3_o : Ops := [
oo 26 (.build [(.int .i64 0), (.int .i64 0), (.int .u64 0), (.sl []), (.int .i64 0)] []), oo 27 (.mv (.t 9)), ow (.store 5 (.t 4) (.t 26)), oo 5 (.asg (ci 0)), oo 6 (.asg (.t 27))]
def r_pb_field_3 := rg r_pb_field_3_o [4, 5, 6]
@[go_sem] theorem r_pb_field_3_u : Gr X K s r_pb_field_3 r_pb_field_3_o [4, 5, 6] := go_region _ _
@[go_sem] def r_pb_field_4_o : Ops := [
oo 28 (.mv (.t 7)), oo 29 (.bin .and (.t 28) (.c (.int .u64 7))), oo 30 (.cvInt .i64 (.t 29)), oo 31 (.mv (.t 1)), oo 32 (.build [(.int .i64 0), (.int .i64 0), (.int .u64 0), (.sl []), (.int .i64 0)] [(1, 1, (.t 30)), (4, 1, (.t 31))]), oo 10 (.alloc [(.int .i64 0), (.int .i64 0), (.int .u64 0), .nilS, (.int .i64 0)]), ow (.store 5 (.t 10) (.t 32))]
def r_pb_field_4 := rg r_pb_field_4_o [0, 1, 4, 7, 8, 10]
@[go_sem] theorem r_pb_field_4_u : Gr X K s r_pb_field_4 r_pb_field_4_o [0, 1, 4, 7, 8, 10] := go_region _ _
@[go_sem] def r_pb_field_5_o : Ops := [
oo 33 (.mv (.t 7)), oo 34 (.bin .shr (.t 33) (.c (.int .u64 3))), oo 35 (.bin .lss (.t 34) (.c (.int .u64 1))), oo 36 (.mv (.t 35)), og 37 36 false (.mv (.t 7)), og 38 36 false (.bin .shr (.t 37) (.c (.int .u64 3))), og 39 36 false (.bin .gtr (.t 38) (.c (.int .u64 536870911))), oo 40 (.pick (.t 36) (.c (.bool true)) (.t 39))]
def r_pb_field_5 := rg r_pb_field_5_o [0, 1, 4, 7, 8, 10, 40]
@[go_sem] theorem r_pb_field_5_u : Gr X K s r_pb_field_5 r_pb_field_5_o [0, 1, 4, 7, 8, 10, 40] := go_region _ _
@[go_sem] def r_pb_field_6_o : Ops := [
oo 41 (.build [(.int .i64 0), (.int .i64 0), (.int .u64 0), (.sl []), (.int .i64 0)] []), ow (.store 5 (.t 4) (.t 41)), oo 5 (.asg (ci 0)), oo 6 (.asg (ci 2))]
def r_pb_field_6 := rg r_pb_field_6_o [4, 5, 6]
@[go_sem] theorem r_pb_field_6_u : Gr X K s r_pb_field_6 r_pb_field_6_o [4, 5, 6] := go_region _ _
@[go_sem] def r_pb_field_7_o : Ops := [
oo 42 (.mv (.t 7)), oo 43 (.bin .shr (.t 42) (.c (.int .u64 3))), oo 44 (.cvInt .i64 (.t 43)), oo 45 (.fieldA 0 (.t 10)), ow (.store 1 (.t 45) (.t 44))]
def r_pb_field_7 := rg r_pb_field_7_o [0, 1, 4, 8, 10]
@[go_sem] theorem r_pb_field_7_u : Gr X K s r_pb_field_7 r_pb_field_7_o [0, 1, 4, 8, 10] := go_region _ _
@[go_sem] def r_pb_field_8_o : Ops := [
oo 11 (.asg (ci 0))]
def r_pb_field_8 := rg r_pb_field_8_o [0, 1, 4, 8, 10, 11]
@[go_sem] theorem r_pb_field_8_u : Gr X K s r_pb_field_8 r_pb_field_8_o [0, 1, 4, 8, 10, 11] := go_region _ _
@[go_sem] def r_pb_field_9_o : Ops := [
oo 46 (.fieldA 1 (.t 10)), oo 47 (.load none (.t 46))]
def r_pb_field_9 := rg r_pb_field_9_o [0, 1, 4, 8, 10, 11, 47]
@[go_sem] theorem r_pb_field_9_u : Gr X K s r_pb_field_9 r_pb_field_9_o [0, 1, 4, 8, 10, 11, 47] := go_region _ _
@[go_sem] def r_pb_field_10_o : Ops := [
oo 49 (.bin .eql (.t 47) (ci 0)), oo 48 (.asg (.t 49))]
def r_pb_field_10 := rg r_pb_field_10_o [0, 1, 4, 8, 10, 11, 47, 48]
@[go_sem] theorem r_pb_field_10_u : Gr X K s r_pb_field_10 r_pb_field_10_o [0, 1, 4, 8, 10, 11, 47, 48] := go_region _ _
@[go_sem] def r_pb_field_11_o : Ops := [
oo 50 (.bin .eql (.t 47) (ci 2)), oo 48 (.asg (.t 50))]
def r_pb_field_11 := rg r_pb_field_11_o [0, 1, 4, 8, 10, 11, 47, 48]
@[go_sem] theorem r_pb_field_11_u : Gr X K s r_pb_field_11 r_pb_field_11_o [0, 1, 4, 8, 10, 11, 47, 48] := go_region _ _
@[go_sem] def r_pb_field_12_o : Ops := [
oo 52 (.bin .eql (.t 47) (ci 1)), oo 51 (.asg (.t 52))]
def r_pb_field_12 := rg r_pb_field_12_o [0, 1, 4, 8, 10, 11, 47, 51]
@[go_sem] theorem r_pb_field_12_u : Gr X K s r_pb_field_12 r_pb_field_12_o [0, 1, 4, 8, 10, 11, 47, 51] := go_region _ _
@[go_sem] def r_pb_field_13_o : Ops := [
oo 54 (.bin .eql (.t 47) (ci 5)), oo 53 (.asg (.t 54))]
def r_pb_field_13 := rg r_pb_field_13_o [0, 1, 4, 8, 10, 11, 53]
@[go_sem] theorem r_pb_field_13_u : Gr X K s r_pb_field_13 r_pb_field_13_o [0, 1, 4, 8, 10, 11, 53] := go_region _ _
@[go_sem] def r_pb_field_14_o : Ops := [
oo 56 (.mv (.t 0)), oo 57 (.mv (.t 1)), oo 58 (.mv (.t 8)), oo 59 (.bin .add (.t 57) (.t 58)), oo 60 (.call false n_nums_Var [(.t 56), (.t 59)]), oo 55 (.mv (.t 60)), oo 61 (.ext (.t 55) 0), oo 62 (.ext (.t 55) 1), oo 63 (.ext (.t 55) 2), oo 12 (.asg (.t 61)), oo 13 (.asg (.t 62)), oo 14 (.asg (.t 63))]
def r_pb_field_14 := rg r_pb_field_14_o [0, 1, 4, 8, 10, 12, 13, 14]
@[go_sem] theorem r_pb_field_14_u : Gr X K s r_pb_field_14 r_pb_field_14_o [0, 1, 4, 8, 10, 12, 13, 14] := go_region _ _
@[go_sem] def r_pb_field_15_o : Ops := [
oo 64 (.mv (.t 14)), oo 65 (.bin .neq (.t 64) (ci 0))]
def r_pb_field_15 := rg r_pb_field_15_o [0, 1, 4, 8, 10, 12, 13, 14, 65]
@[go_sem] theorem r_pb_field_15_u : Gr X K s r_pb_field_15 r_pb_field_15_o [0, 1, 4, 8, 10, 12, 13, 14, 65] := go_region _ _
@[go_sem] def r_pb_field_16_o : Ops := [
oo 66 (.build [(.int .i64 0), (.int .i64 0), (.int .u64 0), (.sl []), (.int .i64 0)] []), oo 67 (.mv (.t 14)), ow (.store 5 (.t 4) (.t 66)), oo 5 (.asg (ci 0)), oo 6 (.asg (.t 67))]
def r_pb_field_16 := rg r_pb_field_16_o [4, 5, 6]
@[go_sem] theorem r_pb_field_16_u : Gr X K s r_pb_field_16 r_pb_field_16_o [4, 5, 6] := go_region _ _
@[go_sem] def r_pb_field_17_o : Ops := [
oo 68 (.mv (.t 8)), oo 69 (.mv (.t 13)), oo 70 (.bin .add (.t 68) (.t 69)), oo 8 (.asg (.t 70))]
def r_pb_field_17 := rg r_pb_field_17_o [0, 1, 4, 8, 10, 12]
@[go_sem] theorem r_pb_field_17_u : Gr X K s r_pb_field_17 r_pb_field_17_o [0, 1, 4, 8, 10, 12] := go_region _ _
@[go_sem] def r_pb_field_18_o : Ops := [
oo 71 (.fieldA 1 (.t 10)), oo 72 (.load none (.t 71)), oo 73 (.bin .eql (.t 72) (ci 0))]
def r_pb_field_18 := rg r_pb_field_18_o [0, 1, 4, 8, 10, 12, 73]
@[go_sem] theorem r_pb_field_18_u : Gr X K s r_pb_field_18 r_pb_field_18_o [0, 1, 4, 8, 10, 12, 73] := go_region _ _
@[go_sem] def r_pb_field_19_o : Ops := [
oo 74 (.mv (.t 12)), oo 75 (.fieldA 2 (.t 10)), ow (.store 1 (.t 75) (.t 74))]
def r_pb_field_19 := rg r_pb_field_19_o [4, 8, 10]
@[go_sem] theorem r_pb_field_19_u : Gr X K s r_pb_field_19 r_pb_field_19_o [4, 8, 10] := go_region _ _
@[go_sem] def r_pb_field_20_o : Ops := [
oo 76 (.load (some 5) (.t 10)), oo 77 (.mv (.t 8)), ow (.store 5 (.t 4) (.t 76)), oo 5 (.asg (.t 77)), oo 6 (.asg (ci 0))]
def r_pb_field_20 := rg r_pb_field_20_o [4, 5, 6]
@[go_sem] theorem r_pb_field_20_u : Gr X K s r_pb_field_20 r_pb_field_20_o [4, 5, 6] := go_region _ _
@[go_sem] def r_pb_field_21_o : Ops := [
oo 78 (.mv (.t 12)), oo 79 (.mv (.t 0)), oo 80 (.len false (.t 79)), oo 81 (.mv (.t 1)), oo 82 (.bin .sub (.t 80) (.t 81)), oo 83 (.mv (.t 8)), oo 84 (.bin .sub (.t 82) (.t 83)), oo 85 (.cvInt .u64 (.t 84)), oo 86 (.bin .gtr (.t 78) (.t 85))]
def r_pb_field_21 := rg r_pb_field_21_o [0, 1, 4, 8, 10, 12, 86]
@[go_sem] theorem r_pb_field_21_u : Gr X K s r_pb_field_21 r_pb_field_21_o [0, 1, 4, 8, 10, 12, 86] := go_region _ _
@[go_sem] def r_pb_field_22_o : Ops := [
oo 87 (.build [(.int .i64 0), (.int .i64 0), (.int .u64 0), (.sl []), (.int .i64 0)] []), ow (.store 5 (.t 4) (.t 87)), oo 5 (.asg (ci 0)), oo 6 (.asg (ci 3))]
def r_pb_field_22 := rg r_pb_field_22_o [4, 5, 6]
@[go_sem] theorem r_pb_field_22_u : Gr X K s r_pb_field_22 r_pb_field_22_o [4, 5, 6] := go_region _ _
@[go_sem] def r_pb_field_23_o : Ops := [
oo 88 (.mv (.t 0)), oo 89 (.mv (.t 1)), oo 90 (.mv (.t 8)), oo 91 (.bin .add (.t 89) (.t 90)), oo 92 (.mv (.t 1)), oo 93 (.mv (.t 8)), oo 94 (.bin .add (.t 92) (.t 93)), oo 95 (.mv (.t 12)), oo 96 (.cvInt .i64 (.t 95)), oo 97 (.bin .add (.t 94) (.t 96)), oo 98 (.slice 1 (.t 88) (some (.t 91)) (some (.t 97)) none), oo 99 (.call false n_slices_Clone_Sbyte_byte [(.t 98)]), oo 100 (.call false n_slices_Clip_Sbyte_byte [(.t 99)]), oo 101 (.fieldA 3 (.t 10)), ow (.store 1 (.t 101) (.t 100))]
def r_pb_field_23 := rg r_pb_field_23_o [4, 8, 10, 12]
@[go_sem] theorem r_pb_field_23_u : Gr X K s r_pb_field_23 r_pb_field_23_o [4, 8, 10, 12] := go_region _ _
@[go_sem] def r_pb_field_24_o : Ops := [
oo 102 (.load (some 5) (.t 10)), oo 103 (.mv (.t 8)), oo 104 (.mv (.t 12)), oo 105 (.cvInt .i64 (.t 104)), oo 106 (.bin .add (.t 103) (.t 105)), ow (.store 5 (.t 4) (.t 102)), oo 5 (.asg (.t 106)), oo 6 (.asg (ci 0))]
def r_pb_field_24 := rg r_pb_field_24_o [4, 5, 6]
@[go_sem] theorem r_pb_field_24_u : Gr X K s r_pb_field_24 r_pb_field_24_o [4, 5, 6] := go_region _ _
@[go_sem] def r_pb_field_25_o : Ops := [
oo 107 (.mv (.t 11)), oo 108 (.bin .add (.t 107) (ci 4)), oo 11 (.asg (.t 108))]
def r_pb_field_25 := rg r_pb_field_25_o [0, 1, 4, 8, 10, 11]
@[go_sem] theorem r_pb_field_25_u : Gr X K s r_pb_field_25 r_pb_field_25_o [0, 1, 4, 8, 10, 11] := go_region _ _
@[go_sem] def r_pb_field_26_o : Ops := [
oo 109 (.mv (.t 11)), oo 110 (.bin .add (.t 109) (ci 4)), oo 11 (.asg (.t 110))]
def r_pb_field_26 := rg r_pb_field_26_o [0, 1, 4, 8, 10, 11]
@[go_sem] theorem r_pb_field_26_u : Gr X K s r_pb_field_26 r_pb_field_26_o [0, 1, 4, 8, 10, 11] := go_region _ _
@[go_sem] def r_pb_field_27_o : Ops := [
oo 111 (.build [(.int .i64 0), (.int .i64 0), (.int .u64 0), (.sl []), (.int .i64 0)] []), ow (.store 5 (.t 4) (.t 111)), oo 5 (.asg (ci 0)), oo 6 (.asg (ci 2))]
def r_pb_field_27 := rg r_pb_field_27_o [4, 5, 6]
@[go_sem] theorem r_pb_field_27_u : Gr X K s r_pb_field_27 r_pb_field_27_o [4, 5, 6] := go_region _ _
@[go_sem] def r_pb_field_28_o : Ops := [
oo 112 (.mv (.t 11)), oo 113 (.mv (.t 0)), oo 114 (.len false (.t 113)), oo 115 (.mv (.t 1)), oo 116 (.bin .sub (.t 114) (.t 115)), oo 117 (.mv (.t 8)), oo 118 (.bin .sub (.t 116) (.t 117)), oo 119 (.bin .gtr (.t 112) (.t 118))]
def r_pb_field_28 := rg r_pb_field_28_o [0, 1, 4, 8, 10, 11, 119]
@[go_sem] theorem r_pb_field_28_u : Gr X K s r_pb_field_28 r_pb_field_28_o [0, 1, 4, 8, 10, 11, 119] := go_region _ _
@[go_sem] def r_pb_field_29_o : Ops := [
oo 120 (.build [(.int .i64 0), (.int .i64 0), (.int .u64 0), (.sl []), (.int .i64 0)] []), ow (.store 5 (.t 4) (.t 120)), oo 5 (.asg (ci 0)), oo 6 (.asg (ci 3))]
def r_pb_field_29 := rg r_pb_field_29_o [4, 5, 6]
@[go_sem] theorem r_pb_field_29_u : Gr X K s r_pb_field_29 r_pb_field_29_o [4, 5, 6] := go_region _ _
@[go_sem] def r_pb_field_30_o : Ops := [
oo 121 (.mv (.t 0)), oo 122 (.mv (.t 1)), oo 123 (.mv (.t 8)), oo 124 (.bin .add (.t 122) (.t 123)), oo 125 (.mv (.t 1)), oo 126 (.mv (.t 8)), oo 127 (.bin .add (.t 125) (.t 126)), oo 128 (.mv (.t 11)), oo 129 (.bin .add (.t 127) (.t 128)), oo 130 (.slice 1 (.t 121) (some (.t 124)) (some (.t 129)) none), oo 131 (.len false (.t 130)), oo 132 (.mv (ci 0))]
def r_pb_field_30 := rg r_pb_field_30_o [4, 8, 10, 11, 130, 131, 132]
@[go_sem] theorem r_pb_field_30_u : Gr X K s r_pb_field_30 r_pb_field_30_o [4, 8, 10, 11, 130, 131, 132] := go_region _ _
@[go_sem] def r_pb_field_31_o : Ops := [
oo 133 (.bin .lss (.t 132) (.t 131))]
def r_pb_field_31 := rg r_pb_field_31_o [4, 8, 10, 11, 130, 131, 132, 133]
@[go_sem] theorem r_pb_field_31_u : Gr X K s r_pb_field_31 r_pb_field_31_o [4, 8, 10, 11, 130, 131, 132, 133] := go_region _ _
@[go_sem] def r_pb_field_32_o : Ops := [
oo 134 (.mv (.t 132)), oo 135 (.idxA 1 (.t 130) (.t 132)), oo 136 (.load none (.t 135)), oo 15 (.asg (.t 134)), oo 16 (.asg (.t 136))]
def r_pb_field_32 := rg r_pb_field_32_o [4, 8, 10, 11, 15, 16, 130, 131, 132]
@[go_sem] theorem r_pb_field_32_u : Gr X K s r_pb_field_32 r_pb_field_32_o [4, 8, 10, 11, 15, 16, 130, 131, 132] := go_region _ _
@[go_sem] def r_pb_field_33_o : Ops := [
oo 137 (.fieldA 2 (.t 10)), oo 138 (.load none (.t 137)), oo 139 (.mv (.t 16)), oo 140 (.cvInt .u64 (.t 139)), oo 141 (.mv (.t 15)), oo 142 (.bin .mul (ci 8) (.t 141)), oo 143 (.bin .shl (.t 140) (.t 142)), oo 144 (.bin .or (.t 138) (.t 143)), oo 145 (.fieldA 2 (.t 10)), ow (.store 1 (.t 145) (.t 144))]
def r_pb_field_33_n : List (Nat × Nat) := [(0, 2), (1, 2), (0, 3), (1, 3), (0, 4), (1, 4), (2, 4), (3, 4), (0, 5), (1, 5), (2, 5), (3, 5), (0, 6), (1, 6)]
def r_pb_field_33 : ICode := .region r_pb_field_33_o r_pb_field_33_n [4, 8, 10, 11, 130, 131, 132]
@[go_sem] theorem r_pb_field_33_u : go X (.c r_pb_field_33 :: K) s = goRU X [] r_pb_field_33_n r_pb_field_33_o [4, 8, 10, 11, 130, 131, 132] K s := go_regionU' _ _ _ _
@[go_sem] def r_pb_field_34_o : Ops := [
oo 146 (.bin .add (.t 132) (ci 1)), oo 132 (.mv (.t 146))]
def r_pb_field_34 := rg r_pb_field_34_o [4, 8, 10, 11, 130, 131, 132]
@[go_sem] theorem r_pb_field_34_u : Gr X K s r_pb_field_34 r_pb_field_34_o [4, 8, 10, 11, 130, 131, 132] := go_region _ _
def b_pb_field_35 : ICode := (.seq r_pb_field_31 (.seq (.cond (.t 133) .skip (.exit 5)) (.seq (.block 6 (.seq r_pb_field_32 r_pb_field_33)) r_pb_field_34)))
@[go_sem] theorem b_pb_field_35_u : Gn X K s b_pb_field_35 (.seq r_pb_field_31 (.seq (.cond (.t 133) .skip (.exit 5)) (.seq (.block 6 (.seq r_pb_field_32 r_pb_field_33)) r_pb_field_34))) := rfl
@[go_sem] def r_pb_field_36_o : Ops := [
oo 147 (.load (some 5) (.t 10)), oo 148 (.mv (.t 8)), oo 149 (.mv (.t 11)), oo 150 (.bin .add (.t 148) (.t 149)), ow (.store 5 (.t 4) (.t 147)), oo 5 (.asg (.t 150)), oo 6 (.asg (ci 0))]
def r_pb_field_36 := rg r_pb_field_36_o [4, 5, 6]
@[go_sem] theorem r_pb_field_36_u : Gr X K s r_pb_field_36 r_pb_field_36_o [4, 5, 6] := go_region _ _
def c_pb_field : ICode := (.seq r_pb_field_0 (.seq r_pb_field_1 (.seq r_pb_field_2 (.cond (.t 25) (.seq r_pb_field_3 .ret) (.seq r_pb_field_4 (.seq r_pb_field_5 (.cond (.t 40) (.seq r_pb_field_6 .ret) (.seq r_pb_field_7 (.seq r_pb_field_8 (.seq (.seq r_pb_field_9 (.block 0 (.seq (.block 4 (.seq (.block 3 (.seq (.block 2 (.seq (.block 1 (.seq (.seq (.seq (.seq r_pb_field_10 (.cond (.t 48) .skip r_pb_field_11)) (.cond (.t 48) (.exit 1) .skip)) (.seq (.seq r_pb_field_12 (.cond (.t 51) (.exit 2) .skip)) (.seq r_pb_field_13 (.cond (.t 53) (.exit 3) .skip)))) (.exit 4))) (.seq (.seq r_pb_field_14 (.seq (.seq r_pb_field_15 (.cond (.t 65) (.seq r_pb_field_16 .ret) .skip)) (.seq r_pb_field_17 (.seq (.seq r_pb_field_18 (.cond (.t 73) (.seq r_pb_field_19 (.seq r_pb_field_20 .ret)) .skip)) (.seq (.seq r_pb_field_21 (.cond (.t 86) (.seq r_pb_field_22 .ret) .skip)) (.seq r_pb_field_23 (.seq r_pb_field_24 .ret))))))) (.exit 0)))) r_pb_field_25)) (.seq r_pb_field_26 (.exit 0)))) (.seq (.seq r_pb_field_27 .ret) (.exit 0))))) (.seq r_pb_field_28 (.cond (.t 119) (.seq r_pb_field_29 .ret) (.seq (.seq r_pb_field_30 (.block 5 (.loop b_pb_field_35))) (.seq r_pb_field_36 .ret))))))))))))))
def i_pb_field : IFunc := ⟨2, [.cell 4 (some 5), .t 5, .t 6], c_pb_field⟩
def a_pb_field : Advice := ⟨[], [(35, [4, 5, 6]), (34, [4, 8, 10, 11, 130, 131, 132]), (33, [4, 8, 10, 11, 130, 131, 132]), (32, [4, 8, 10, 11, 15, 16, 130, 131, 132]), (31, [4, 8, 10, 11, 130, 131, 132, 133]), (30, [4, 8, 10, 11, 130, 131, 132]), (29, [4, 5, 6]), (28, [0, 1, 4, 8, 10, 11, 119]), (27, [4, 5, 6]), (26, [0, 1, 4, 8, 10, 11]), (25, [0, 1, 4, 8, 10, 11]), (24, [4, 5, 6]), (23, [4, 8, 10, 12]), (22, [4, 5, 6]), (21, [0, 1, 4, 8, 10, 12, 86]), (20, [4, 5, 6]), (19, [4, 8, 10]), (18, [0, 1, 4, 8, 10, 12, 73]), (17, [0, 1, 4, 8, 10, 12]), (16, [4, 5, 6]), (15, [0, 1, 4, 8, 10, 12, 13, 14, 65]), (14, [0, 1, 4, 8, 10, 12, 13, 14]), (13, [0, 1, 4, 8, 10, 11, 53]), (12, [0, 1, 4, 8, 10, 11, 47, 51]), (11, [0, 1, 4, 8, 10, 11, 47, 48]), (10, [0, 1, 4, 8, 10, 11, 47, 48]), (9, [0, 1, 4, 8, 10, 11, 47]), (8, [0, 1, 4, 8, 10, 11]), (7, [0, 1, 4, 8, 10]), (6, [4, 5, 6]), (5, [0, 1, 4, 7, 8, 10, 40]), (4, [0, 1, 4, 7, 8, 10]), (3, [4, 5, 6]), (2, [0, 1, 4, 7, 8, 9, 25]), (1, [0, 1, 4, 7, 8, 9]), (0, [0, 1, 4])], [], [], [], []⟩
/-! ingot/pb.Parse -/
@[go_sem] def r_pb_Parse_0_o : Ops := [
oo 2 (.asg (.c .nilS)), oo 3 (.asg (ci 0))]
def r_pb_Parse_0 := rg r_pb_Parse_0_o [0]
@[go_sem] theorem r_pb_Parse_0_u : Gr X K s r_pb_Parse_0 r_pb_Parse_0_o [0] := go_region _ _
@[go_sem] def r_pb_Parse_1_o : Ops := [
oo 9 (.mv (.t 0)), oo 10 (.len false (.t 9)), oo 11 (.bin .gtr (.t 10) (ci 262144))]
def r_pb_Parse_1 := rg r_pb_Parse_1_o [0, 11]
@[go_sem] theorem r_pb_Parse_1_u : Gr X K s r_pb_Parse_1 r_pb_Parse_1_o [0, 11] := go_region _ _
@[go_sem] def r_pb_Parse_2_o : Ops := [
oo 2 (.asg (.c .nilS)), oo 3 (.asg (ci 4))]
def r_pb_Parse_2 := rg r_pb_Parse_2_o [2, 3]
@[go_sem] theorem r_pb_Parse_2_u : Gr X K s r_pb_Parse_2 r_pb_Parse_2_o [2, 3] := go_region _ _
@[go_sem] def r_pb_Parse_3_o : Ops := [
oo 4 (.asg (.c .nilS))]
def r_pb_Parse_3 := rg r_pb_Parse_3_o [0, 4]
@[go_sem] theorem r_pb_Parse_3_u : Gr X K s r_pb_Parse_3 r_pb_Parse_3_o [0, 4] := go_region _ _
@[go_sem] def r_pb_Parse_4_o : Ops := [
oo 5 (.asg (ci 0))]
def r_pb_Parse_4 := rg r_pb_Parse_4_o [0, 4, 5]
@[go_sem] theorem r_pb_Parse_4_u : Gr X K s r_pb_Parse_4 r_pb_Parse_4_o [0, 4, 5] := go_region _ _
@[go_sem] def r_pb_Parse_5_o : Ops := [
oo 12 (.mv (.t 5)), oo 13 (.mv (.t 0)), oo 14 (.len false (.t 13)), oo 15 (.bin .lss (.t 12) (.t 14))]
def r_pb_Parse_5 := rg r_pb_Parse_5_o [0, 4, 5, 15]
@[go_sem] theorem r_pb_Parse_5_u : Gr X K s r_pb_Parse_5 r_pb_Parse_5_o [0, 4, 5, 15] := go_region _ _
@[go_sem] def r_pb_Parse_6_o : Ops := [
oo 16 (.mv (.t 4)), oo 17 (.len false (.t 16)), oo 18 (.bin .geq (.t 17) (ci 4096))]
def r_pb_Parse_6 := rg r_pb_Parse_6_o [0, 4, 5, 18]
@[go_sem] theorem r_pb_Parse_6_u : Gr X K s r_pb_Parse_6 r_pb_Parse_6_o [0, 4, 5, 18] := go_region _ _
@[go_sem] def r_pb_Parse_7_o : Ops := [
oo 2 (.asg (.c .nilS)), oo 3 (.asg (ci 4))]
def r_pb_Parse_7 := rg r_pb_Parse_7_o [2, 3]
@[go_sem] theorem r_pb_Parse_7_u : Gr X K s r_pb_Parse_7 r_pb_Parse_7_o [2, 3] := go_region _ _
@[go_sem] def r_pb_Parse_8_o : Ops := [
oo 20 (.mv (.t 0)), oo 21 (.mv (.t 5)), oo 22 (.call false n_pb_field [(.t 20), (.t 21)]), oo 19 (.mv (.t 22)), oo 23 (.ext (.t 19) 0), oo 24 (.ext (.t 19) 1), oo 25 (.ext (.t 19) 2), oo 6 (.alloc [(.int .i64 0), (.int .i64 0), (.int .u64 0), .nilS, (.int .i64 0)]), ow (.store 5 (.t 6) (.t 23)), oo 7 (.asg (.t 24)), oo 8 (.asg (.t 25))]
def r_pb_Parse_8 := rg r_pb_Parse_8_o [0, 4, 5, 6, 7, 8]
@[go_sem] theorem r_pb_Parse_8_u : Gr X K s r_pb_Parse_8 r_pb_Parse_8_o [0, 4, 5, 6, 7, 8] := go_region _ _
@[go_sem] def r_pb_Parse_9_o : Ops := [
oo 26 (.mv (.t 8)), oo 27 (.bin .neq (.t 26) (ci 0))]
def r_pb_Parse_9 := rg r_pb_Parse_9_o [0, 4, 5, 6, 7, 8, 27]
@[go_sem] theorem r_pb_Parse_9_u : Gr X K s r_pb_Parse_9 r_pb_Parse_9_o [0, 4, 5, 6, 7, 8, 27] := go_region _ _
@[go_sem] def r_pb_Parse_10_o : Ops := [
oo 28 (.mv (.t 8)), oo 2 (.asg (.c .nilS)), oo 3 (.asg (.t 28))]
def r_pb_Parse_10 := rg r_pb_Parse_10_o [2, 3]
@[go_sem] theorem r_pb_Parse_10_u : Gr X K s r_pb_Parse_10 r_pb_Parse_10_o [2, 3] := go_region _ _
@[go_sem] def r_pb_Parse_11_o : Ops := [
oo 29 (.mv (.t 4)), oo 30 (.load (some 5) (.t 6)), oo 31 (.lit false 5 1 (.agg [(.int .i64 0), (.int .i64 0), (.int .u64 0), (.sl []), (.int .i64 0)]) [(0, (.t 30))]), oo 32 (.append 5 56 (.t 29) (.t 31)), oo 4 (.asg (.t 32))]
def r_pb_Parse_11 := rg r_pb_Parse_11_o [0, 4, 5, 7]
@[go_sem] theorem r_pb_Parse_11_u : Gr X K s r_pb_Parse_11 r_pb_Parse_11_o [0, 4, 5, 7] := go_region _ _
@[go_sem] def r_pb_Parse_12_o : Ops := [
oo 33 (.mv (.t 5)), oo 34 (.mv (.t 7)), oo 35 (.bin .add (.t 33) (.t 34)), oo 5 (.asg (.t 35))]
def r_pb_Parse_12 := rg r_pb_Parse_12_o [0, 4, 5]
@[go_sem] theorem r_pb_Parse_12_u : Gr X K s r_pb_Parse_12 r_pb_Parse_12_o [0, 4, 5] := go_region _ _
def b_pb_Parse_13 : ICode := (.seq (.seq r_pb_Parse_5 (.cond (.t 15) .skip (.exit 0))) (.block 1 (.seq (.seq r_pb_Parse_6 (.cond (.t 18) (.seq r_pb_Parse_7 .ret) .skip)) (.seq (.seq (.free 6) r_pb_Parse_8) (.seq (.seq r_pb_Parse_9 (.cond (.t 27) (.seq r_pb_Parse_10 .ret) .skip)) (.seq r_pb_Parse_11 r_pb_Parse_12))))))
@[go_sem] theorem b_pb_Parse_13_u : Gn X K s b_pb_Parse_13 (.seq (.seq r_pb_Parse_5 (.cond (.t 15) .skip (.exit 0))) (.block 1 (.seq (.seq r_pb_Parse_6 (.cond (.t 18) (.seq r_pb_Parse_7 .ret) .skip)) (.seq (.seq (.free 6) r_pb_Parse_8) (.seq (.seq r_pb_Parse_9 (.cond (.t 27) (.seq r_pb_Parse_10 .ret) .skip)) (.seq r_pb_Parse_11 r_pb_Parse_12)))))) := rfl
@[go_sem] def r_pb_Parse_14_o : Ops := [
oo 36 (.mv (.t 4)), oo 37 (.call false n_slices_Clip_Spb_Field_pb_Field [(.t 36)]), oo 2 (.asg (.t 37)), oo 3 (.asg (ci 0))]
def r_pb_Parse_14 := rg r_pb_Parse_14_o [2, 3]
@[go_sem] theorem r_pb_Parse_14_u : Gr X K s r_pb_Parse_14 r_pb_Parse_14_o [2, 3] := go_region _ _
def c_pb_Parse : ICode := (.seq r_pb_Parse_0 (.seq r_pb_Parse_1 (.cond (.t 11) (.seq r_pb_Parse_2 .ret) (.seq r_pb_Parse_3 (.seq (.seq r_pb_Parse_4 (.block 0 (.loop b_pb_Parse_13))) (.seq r_pb_Parse_14 .ret))))))
def i_pb_Parse : IFunc := ⟨1, [.t 2, .t 3], c_pb_Parse⟩
def a_pb_Parse : Advice := ⟨[32], [(13, [2, 3]), (12, [0, 4, 5]), (11, [0, 4, 5, 7]), (10, [2, 3]), (9, [0, 4, 5, 6, 7, 8, 27]), (8, [0, 4, 5, 6, 7, 8]), (7, [2, 3]), (6, [0, 4, 5, 18]), (5, [0, 4, 5, 15]), (4, [0, 4, 5]), (3, [0, 4]), (2, [2, 3]), (1, [0, 11]), (0, [0])], [], [(8, [6])], [], []⟩
/-! ingot/sfoot.Decode -/
@[go_sem] def r_sfoot_Decode_0_o : Ops := [
oo 2 (.alloc [.nilS, .nilS]), oo 3 (.asg (ci 0))]
def r_sfoot_Decode_0 := rg r_sfoot_Decode_0_o [0, 2]
@[go_sem] theorem r_sfoot_Decode_0_u : Gr X K s r_sfoot_Decode_0 r_sfoot_Decode_0_o [0, 2] := go_region _ _
@[go_sem] def r_sfoot_Decode_1_o : Ops := [
oo 18 (.mv (.t 0)), oo 19 (.call false n_pb_Parse [(.t 18)]), oo 17 (.mv (.t 19)), oo 20 (.ext (.t 17) 0), oo 21 (.ext (.t 17) 1), oo 4 (.asg (.t 20)), oo 5 (.asg (.t 21))]
def r_sfoot_Decode_1 := rg r_sfoot_Decode_1_o [2, 4, 5]
@[go_sem] theorem r_sfoot_Decode_1_u : Gr X K s r_sfoot_Decode_1 r_sfoot_Decode_1_o [2, 4, 5] := go_region _ _
@[go_sem] def r_sfoot_Decode_2_o : Ops := [
oo 22 (.mv (.t 5)), oo 23 (.bin .neq (.t 22) (ci 0))]
def r_sfoot_Decode_2 := rg r_sfoot_Decode_2_o [2, 4, 5, 23]
@[go_sem] theorem r_sfoot_Decode_2_u : Gr X K s r_sfoot_Decode_2 r_sfoot_Decode_2_o [2, 4, 5, 23] := go_region _ _
@[go_sem] def r_sfoot_Decode_3_o : Ops := [
oo 24 (.build [(.sl []), (.sl [])] []), oo 25 (.mv (.t 5)), ow (.store 2 (.t 2) (.t 24)), oo 3 (.asg (.t 25))]
def r_sfoot_Decode_3 := rg r_sfoot_Decode_3_o [2, 3]
@[go_sem] theorem r_sfoot_Decode_3_u : Gr X K s r_sfoot_Decode_3 r_sfoot_Decode_3_o [2, 3] := go_region _ _
@[go_sem] def r_sfoot_Decode_4_o : Ops := [
oo 6 (.alloc [.nilS, .nilS])]
def r_sfoot_Decode_4 := rg r_sfoot_Decode_4_o [2, 4, 6]
@[go_sem] theorem r_sfoot_Decode_4_u : Gr X K s r_sfoot_Decode_4 r_sfoot_Decode_4_o [2, 4, 6] := go_region _ _
@[go_sem] def r_sfoot_Decode_5_o : Ops := [
oo 7 (.asg (.c (.bool true)))]
def r_sfoot_Decode_5 := rg r_sfoot_Decode_5_o [2, 4, 6, 7]
@[go_sem] theorem r_sfoot_Decode_5_u : Gr X K s r_sfoot_Decode_5 r_sfoot_Decode_5_o [2, 4, 6, 7] := go_region _ _
@[go_sem] def r_sfoot_Decode_6_o : Ops := [
oo 26 (.mv (.t 4)), oo 27 (.len false (.t 26)), oo 28 (.mv (ci 0))]
def r_sfoot_Decode_6 := rg r_sfoot_Decode_6_o [2, 6, 7, 26, 27, 28]
@[go_sem] theorem r_sfoot_Decode_6_u : Gr X K s r_sfoot_Decode_6 r_sfoot_Decode_6_o [2, 6, 7, 26, 27, 28] := go_region _ _
@[go_sem] def r_sfoot_Decode_7_o : Ops := [
oo 29 (.bin .lss (.t 28) (.t 27))]
def r_sfoot_Decode_7 := rg r_sfoot_Decode_7_o [2, 6, 7, 26, 27, 28, 29]
@[go_sem] theorem r_sfoot_Decode_7_u : Gr X K s r_sfoot_Decode_7 r_sfoot_Decode_7_o [2, 6, 7, 26, 27, 28, 29] := go_region _ _
@[go_sem] def r_sfoot_Decode_8_o : Ops := [
oo 30 (.idxA 5 (.t 26) (.t 28)), oo 31 (.load (some 5) (.t 30)), oo 9 (.alloc [(.int .i64 0), (.int .i64 0), (.int .u64 0), .nilS, (.int .i64 0)]), ow (.store 5 (.t 9) (.t 31))]
def r_sfoot_Decode_8 := rg r_sfoot_Decode_8_o [2, 6, 7, 9, 26, 27, 28]
@[go_sem] theorem r_sfoot_Decode_8_u : Gr X K s r_sfoot_Decode_8 r_sfoot_Decode_8_o [2, 6, 7, 9, 26, 27, 28] := go_region _ _
@[go_sem] def r_sfoot_Decode_9_o : Ops := [
oo 32 (.fieldA 1 (.t 9)), oo 33 (.load none (.t 32)), oo 34 (.bin .neq (.t 33) (ci 2)), oo 35 (.mv (.t 34)), og 36 35 false (.fieldA 0 (.t 9)), og 37 35 false (.load none (.t 36)), og 38 35 false (.bin .neq (.t 37) (ci 1)), og 39 35 false (.mv (.t 38)), og 40 39 true (.fieldA 0 (.t 9)), og 41 39 true (.load none (.t 40)), og 42 39 true (.bin .neq (.t 41) (ci 2)), og 43 35 false (.pick (.t 39) (.t 42) (.c (.bool false))), oo 44 (.pick (.t 35) (.c (.bool true)) (.t 43))]
def r_sfoot_Decode_9 := rg r_sfoot_Decode_9_o [2, 6, 7, 9, 26, 27, 28, 44]
@[go_sem] theorem r_sfoot_Decode_9_u : Gr X K s r_sfoot_Decode_9 r_sfoot_Decode_9_o [2, 6, 7, 9, 26, 27, 28, 44] := go_region _ _
@[go_sem] def r_sfoot_Decode_10_o : Ops := [
oo 46 (.fieldA 3 (.t 9)), oo 47 (.load none (.t 46)), oo 48 (.call false n_pb_Parse [(.t 47)]), oo 45 (.mv (.t 48)), oo 49 (.ext (.t 45) 0), oo 50 (.ext (.t 45) 1), oo 10 (.asg (.t 49)), oo 11 (.asg (.t 50))]
def r_sfoot_Decode_10 := rg r_sfoot_Decode_10_o [2, 6, 7, 9, 10, 11, 26, 27, 28]
@[go_sem] theorem r_sfoot_Decode_10_u : Gr X K s r_sfoot_Decode_10 r_sfoot_Decode_10_o [2, 6, 7, 9, 10, 11, 26, 27, 28] := go_region _ _
@[go_sem] def r_sfoot_Decode_11_o : Ops := [
oo 51 (.mv (.t 11)), oo 52 (.bin .neq (.t 51) (ci 0))]
def r_sfoot_Decode_11 := rg r_sfoot_Decode_11_o [2, 6, 7, 9, 10, 11, 26, 27, 28, 52]
@[go_sem] theorem r_sfoot_Decode_11_u : Gr X K s r_sfoot_Decode_11 r_sfoot_Decode_11_o [2, 6, 7, 9, 10, 11, 26, 27, 28, 52] := go_region _ _
@[go_sem] def r_sfoot_Decode_12_o : Ops := [
oo 53 (.build [(.sl []), (.sl [])] []), oo 54 (.mv (.t 11)), ow (.store 2 (.t 2) (.t 53)), oo 3 (.asg (.t 54))]
def r_sfoot_Decode_12 := rg r_sfoot_Decode_12_o [2, 3]
@[go_sem] theorem r_sfoot_Decode_12_u : Gr X K s r_sfoot_Decode_12 r_sfoot_Decode_12_o [2, 3] := go_region _ _
@[go_sem] def r_sfoot_Decode_13_o : Ops := [
oo 12 (.alloc [(.int .i64 0), (.int .i64 0), (.int .i64 0)])]
def r_sfoot_Decode_13 := rg r_sfoot_Decode_13_o [2, 6, 7, 9, 10, 12, 26, 27, 28]
@[go_sem] theorem r_sfoot_Decode_13_u : Gr X K s r_sfoot_Decode_13 r_sfoot_Decode_13_o [2, 6, 7, 9, 10, 12, 26, 27, 28] := go_region _ _
@[go_sem] def r_sfoot_Decode_14_o : Ops := [
oo 13 (.asg (ci 2))]
def r_sfoot_Decode_14 := rg r_sfoot_Decode_14_o [2, 6, 7, 9, 10, 12, 13, 26, 27, 28]
@[go_sem] theorem r_sfoot_Decode_14_u : Gr X K s r_sfoot_Decode_14 r_sfoot_Decode_14_o [2, 6, 7, 9, 10, 12, 13, 26, 27, 28] := go_region _ _
@[go_sem] def r_sfoot_Decode_15_o : Ops := [
oo 55 (.fieldA 0 (.t 9)), oo 56 (.load none (.t 55))]
def r_sfoot_Decode_15 := rg r_sfoot_Decode_15_o [2, 6, 7, 9, 10, 12, 13, 26, 27, 28, 56]
@[go_sem] theorem r_sfoot_Decode_15_u : Gr X K s r_sfoot_Decode_15 r_sfoot_Decode_15_o [2, 6, 7, 9, 10, 12, 13, 26, 27, 28, 56] := go_region _ _
@[go_sem] def r_sfoot_Decode_16_o : Ops := [
oo 58 (.bin .eql (.t 56) (ci 1)), oo 57 (.asg (.t 58))]
def r_sfoot_Decode_16 := rg r_sfoot_Decode_16_o [2, 6, 7, 9, 10, 12, 13, 26, 27, 28, 57]
@[go_sem] theorem r_sfoot_Decode_16_u : Gr X K s r_sfoot_Decode_16 r_sfoot_Decode_16_o [2, 6, 7, 9, 10, 12, 13, 26, 27, 28, 57] := go_region _ _
@[go_sem] def r_sfoot_Decode_17_o : Ops := [
oo 59 (.mv (.t 13)), oo 60 (.bin .add (.t 59) (ci 1)), oo 13 (.asg (.t 60))]
def r_sfoot_Decode_17 := rg r_sfoot_Decode_17_o [2, 6, 7, 9, 10, 12, 13, 26, 27, 28]
@[go_sem] theorem r_sfoot_Decode_17_u : Gr X K s r_sfoot_Decode_17 r_sfoot_Decode_17_o [2, 6, 7, 9, 10, 12, 13, 26, 27, 28] := go_region _ _
@[go_sem] def r_sfoot_Decode_18_o : Ops := [
oo 61 (.mv (.t 13)), oo 62 (.mv (ci 0))]
def r_sfoot_Decode_18 := rg r_sfoot_Decode_18_o [2, 6, 7, 9, 10, 12, 26, 27, 28, 61, 62]
@[go_sem] theorem r_sfoot_Decode_18_u : Gr X K s r_sfoot_Decode_18 r_sfoot_Decode_18_o [2, 6, 7, 9, 10, 12, 26, 27, 28, 61, 62] := go_region _ _
@[go_sem] def r_sfoot_Decode_19_o : Ops := [
oo 63 (.bin .lss (.t 62) (.t 61))]
def r_sfoot_Decode_19 := rg r_sfoot_Decode_19_o [2, 6, 7, 9, 10, 12, 26, 27, 28, 61, 62, 63]
@[go_sem] theorem r_sfoot_Decode_19_u : Gr X K s r_sfoot_Decode_19 r_sfoot_Decode_19_o [2, 6, 7, 9, 10, 12, 26, 27, 28, 61, 62, 63] := go_region _ _
@[go_sem] def r_sfoot_Decode_20_o : Ops := [
oo 64 (.mv (.t 62)), oo 14 (.asg (.t 64))]
def r_sfoot_Decode_20 := rg r_sfoot_Decode_20_o [2, 6, 7, 9, 10, 12, 14, 26, 27, 28, 61, 62]
@[go_sem] theorem r_sfoot_Decode_20_u : Gr X K s r_sfoot_Decode_20 r_sfoot_Decode_20_o [2, 6, 7, 9, 10, 12, 14, 26, 27, 28, 61, 62] := go_region _ _
@[go_sem] def r_sfoot_Decode_21_o : Ops := [
oo 66 (.mv (.t 10)), oo 67 (.mv (.t 14)), oo 68 (.bin .add (.t 67) (ci 1)), oo 69 (.call false n_pb_Uint [(.t 66), (.t 68)]), oo 65 (.mv (.t 69)), oo 70 (.ext (.t 65) 0), oo 71 (.ext (.t 65) 1), oo 15 (.asg (.t 70)), oo 16 (.asg (.t 71))]
def r_sfoot_Decode_21 := rg r_sfoot_Decode_21_o [2, 6, 7, 9, 10, 12, 14, 15, 26, 27, 28, 61, 62]
@[go_sem] theorem r_sfoot_Decode_21_u : Gr X K s r_sfoot_Decode_21 r_sfoot_Decode_21_o [2, 6, 7, 9, 10, 12, 14, 15, 26, 27, 28, 61, 62] := go_region _ _
@[go_sem] def r_sfoot_Decode_22_o : Ops := [
oo 72 (.mv (.t 7)), oo 73 (.mv (.t 72)), og 74 73 true (.mv (.t 15)), og 75 73 true (.bin .leq (.t 74) (.c (.int .u64 262144))), oo 76 (.pick (.t 73) (.t 75) (.c (.bool false))), oo 7 (.asg (.t 76))]
def r_sfoot_Decode_22 := rg r_sfoot_Decode_22_o [2, 6, 7, 9, 10, 12, 14, 15, 26, 27, 28, 61, 62]
@[go_sem] theorem r_sfoot_Decode_22_u : Gr X K s r_sfoot_Decode_22 r_sfoot_Decode_22_o [2, 6, 7, 9, 10, 12, 14, 15, 26, 27, 28, 61, 62] := go_region _ _
@[go_sem] def r_sfoot_Decode_23_o : Ops := [
oo 77 (.mv (.t 14)), oo 78 (.mv (.t 15)), oo 79 (.minmax false [(.t 78), (.c (.int .u64 262144))]), oo 80 (.cvInt .i64 (.t 79)), oo 81 (.idxB 3 1 (.t 12) (.t 77)), ow (.store 1 (.t 81) (.t 80))]
def r_sfoot_Decode_23 := rg r_sfoot_Decode_23_o [2, 6, 7, 9, 10, 12, 26, 27, 28, 61, 62]
@[go_sem] theorem r_sfoot_Decode_23_u : Gr X K s r_sfoot_Decode_23 r_sfoot_Decode_23_o [2, 6, 7, 9, 10, 12, 26, 27, 28, 61, 62] := go_region _ _
@[go_sem] def r_sfoot_Decode_24_o : Ops := [
oo 82 (.bin .add (.t 62) (ci 1)), oo 62 (.mv (.t 82))]
def r_sfoot_Decode_24 := rg r_sfoot_Decode_24_o [2, 6, 7, 9, 10, 12, 26, 27, 28, 61, 62]
@[go_sem] theorem r_sfoot_Decode_24_u : Gr X K s r_sfoot_Decode_24 r_sfoot_Decode_24_o [2, 6, 7, 9, 10, 12, 26, 27, 28, 61, 62] := go_region _ _
def b_sfoot_Decode_25 : ICode := (.seq r_sfoot_Decode_19 (.seq (.cond (.t 63) .skip (.exit 5)) (.seq (.block 6 (.seq r_sfoot_Decode_20 (.seq r_sfoot_Decode_21 (.seq r_sfoot_Decode_22 r_sfoot_Decode_23)))) r_sfoot_Decode_24)))
@[go_sem] theorem b_sfoot_Decode_25_u : Gn X K s b_sfoot_Decode_25 (.seq r_sfoot_Decode_19 (.seq (.cond (.t 63) .skip (.exit 5)) (.seq (.block 6 (.seq r_sfoot_Decode_20 (.seq r_sfoot_Decode_21 (.seq r_sfoot_Decode_22 r_sfoot_Decode_23)))) r_sfoot_Decode_24))) := rfl
@[go_sem] def r_sfoot_Decode_26_o : Ops := [
oo 83 (.fieldA 0 (.t 9)), oo 84 (.load none (.t 83)), oo 85 (.bin .eql (.t 84) (ci 1))]
def r_sfoot_Decode_26 := rg r_sfoot_Decode_26_o [2, 6, 7, 12, 26, 27, 28, 85]
@[go_sem] theorem r_sfoot_Decode_26_u : Gr X K s r_sfoot_Decode_26 r_sfoot_Decode_26_o [2, 6, 7, 12, 26, 27, 28, 85] := go_region _ _
@[go_sem] def r_sfoot_Decode_27_o : Ops := [
oo 86 (.fieldA 0 (.t 6)), oo 87 (.load none (.t 86)), oo 88 (.idxB 3 1 (.t 12) (ci 0)), oo 89 (.load none (.t 88)), oo 90 (.idxB 3 1 (.t 12) (ci 1)), oo 91 (.load none (.t 90)), oo 92 (.idxB 3 1 (.t 12) (ci 2)), oo 93 (.load none (.t 92)), oo 94 (.build [(.int .i64 0), (.int .i64 0), (.int .i64 0)] [(0, 1, (.t 89)), (1, 1, (.t 91)), (2, 1, (.t 93))]), oo 95 (.lit false 3 1 (.agg [(.int .i64 0), (.int .i64 0), (.int .i64 0)]) [(0, (.t 94))]), oo 96 (.append 3 24 (.t 87) (.t 95)), oo 97 (.fieldA 0 (.t 6)), ow (.store 1 (.t 97) (.t 96))]
def r_sfoot_Decode_27 := rg r_sfoot_Decode_27_o [2, 6, 7, 26, 27, 28]
@[go_sem] theorem r_sfoot_Decode_27_u : Gr X K s r_sfoot_Decode_27 r_sfoot_Decode_27_o [2, 6, 7, 26, 27, 28] := go_region _ _
@[go_sem] def r_sfoot_Decode_28_o : Ops := [
oo 98 (.fieldA 1 (.t 6)), oo 99 (.load none (.t 98)), oo 100 (.idxB 3 1 (.t 12) (ci 0)), oo 101 (.load none (.t 100)), oo 102 (.idxB 3 1 (.t 12) (ci 1)), oo 103 (.load none (.t 102)), oo 104 (.build [(.int .i64 0), (.int .i64 0)] [(0, 1, (.t 101)), (1, 1, (.t 103))]), oo 105 (.lit false 2 1 (.agg [(.int .i64 0), (.int .i64 0)]) [(0, (.t 104))]), oo 106 (.append 2 16 (.t 99) (.t 105)), oo 107 (.fieldA 1 (.t 6)), ow (.store 1 (.t 107) (.t 106))]
def r_sfoot_Decode_28 := rg r_sfoot_Decode_28_o [2, 6, 7, 26, 27, 28]
@[go_sem] theorem r_sfoot_Decode_28_u : Gr X K s r_sfoot_Decode_28 r_sfoot_Decode_28_o [2, 6, 7, 26, 27, 28] := go_region _ _
@[go_sem] def r_sfoot_Decode_29_o : Ops := [
oo 108 (.bin .add (.t 28) (ci 1)), oo 28 (.mv (.t 108))]
def r_sfoot_Decode_29 := rg r_sfoot_Decode_29_o [2, 6, 7, 26, 27, 28]
@[go_sem] theorem r_sfoot_Decode_29_u : Gr X K s r_sfoot_Decode_29 r_sfoot_Decode_29_o [2, 6, 7, 26, 27, 28] := go_region _ _
def b_sfoot_Decode_30 : ICode := (.seq r_sfoot_Decode_7 (.seq (.cond (.t 29) .skip (.exit 0)) (.seq (.block 1 (.seq (.seq (.free 9) r_sfoot_Decode_8) (.seq (.seq r_sfoot_Decode_9 (.cond (.t 44) (.exit 1) .skip)) (.seq r_sfoot_Decode_10 (.seq (.seq r_sfoot_Decode_11 (.cond (.t 52) (.seq r_sfoot_Decode_12 .ret) .skip)) (.seq (.seq (.free 12) r_sfoot_Decode_13) (.seq r_sfoot_Decode_14 (.seq (.seq r_sfoot_Decode_15 (.block 2 (.seq (.block 4 (.seq (.block 3 (.seq (.seq r_sfoot_Decode_16 (.cond (.t 57) (.exit 3) .skip)) (.exit 4))) r_sfoot_Decode_17)) (.seq (.seq r_sfoot_Decode_18 (.block 5 (.loop b_sfoot_Decode_25))) (.exit 2))))) (.seq r_sfoot_Decode_26 (.cond (.t 85) r_sfoot_Decode_27 r_sfoot_Decode_28)))))))))) r_sfoot_Decode_29)))
@[go_sem] theorem b_sfoot_Decode_30_u : Gn X K s b_sfoot_Decode_30 (.seq r_sfoot_Decode_7 (.seq (.cond (.t 29) .skip (.exit 0)) (.seq (.block 1 (.seq (.seq (.free 9) r_sfoot_Decode_8) (.seq (.seq r_sfoot_Decode_9 (.cond (.t 44) (.exit 1) .skip)) (.seq r_sfoot_Decode_10 (.seq (.seq r_sfoot_Decode_11 (.cond (.t 52) (.seq r_sfoot_Decode_12 .ret) .skip)) (.seq (.seq (.free 12) r_sfoot_Decode_13) (.seq r_sfoot_Decode_14 (.seq (.seq r_sfoot_Decode_15 (.block 2 (.seq (.block 4 (.seq (.block 3 (.seq (.seq r_sfoot_Decode_16 (.cond (.t 57) (.exit 3) .skip)) (.exit 4))) r_sfoot_Decode_17)) (.seq (.seq r_sfoot_Decode_18 (.block 5 (.loop b_sfoot_Decode_25))) (.exit 2))))) (.seq r_sfoot_Decode_26 (.cond (.t 85) r_sfoot_Decode_27 r_sfoot_Decode_28)))))))))) r_sfoot_Decode_29))) := rfl
@[go_sem] def r_sfoot_Decode_31_o : Ops := [
oo 109 (.mv (.t 7)), oo 110 (.un .not (.t 109)), oo 111 (.mv (.t 110)), og 112 111 false (.fieldA 0 (.t 6)), og 113 111 false (.load none (.t 112)), og 114 111 false (.len false (.t 113)), og 115 111 false (.bin .gtr (.t 114) (ci 800)), oo 116 (.pick (.t 111) (.c (.bool true)) (.t 115)), oo 117 (.mv (.t 116)), og 118 117 false (.fieldA 1 (.t 6)), og 119 117 false (.load none (.t 118)), og 120 117 false (.len false (.t 119)), og 121 117 false (.bin .gtr (.t 120) (ci 100)), oo 122 (.pick (.t 117) (.c (.bool true)) (.t 121))]
def r_sfoot_Decode_31 := rg r_sfoot_Decode_31_o [2, 6, 122]
@[go_sem] theorem r_sfoot_Decode_31_u : Gr X K s r_sfoot_Decode_31 r_sfoot_Decode_31_o [2, 6, 122] := go_region _ _
@[go_sem] def r_sfoot_Decode_32_o : Ops := [
oo 123 (.build [(.sl []), (.sl [])] []), ow (.store 2 (.t 2) (.t 123)), oo 3 (.asg (ci 2))]
def r_sfoot_Decode_32 := rg r_sfoot_Decode_32_o [2, 3]
@[go_sem] theorem r_sfoot_Decode_32_u : Gr X K s r_sfoot_Decode_32 r_sfoot_Decode_32_o [2, 3] := go_region _ _
@[go_sem] def r_sfoot_Decode_33_o : Ops := [
oo 124 (.fieldA 0 (.t 6)), oo 125 (.load none (.t 124)), oo 126 (.call false n_slices_Clip_Ssfoot_Place_sfoot_Place [(.t 125)]), oo 127 (.fieldA 1 (.t 6)), oo 128 (.load none (.t 127)), oo 129 (.call false n_slices_Clip_Scolw_Encoding_colw_Encoding [(.t 128)]), oo 130 (.build [(.sl []), (.sl [])] [(0, 1, (.t 126)), (1, 1, (.t 129))]), ow (.store 2 (.t 2) (.t 130)), oo 3 (.asg (ci 0))]
def r_sfoot_Decode_33_n : List (Nat × Nat) := [(0, 3), (1, 3), (2, 3), (0, 4), (1, 4), (2, 4)]
def r_sfoot_Decode_33 : ICode := .region r_sfoot_Decode_33_o r_sfoot_Decode_33_n [2, 3]
@[go_sem] theorem r_sfoot_Decode_33_u : go X (.c r_sfoot_Decode_33 :: K) s = goRU X [] r_sfoot_Decode_33_n r_sfoot_Decode_33_o [2, 3] K s := go_regionU' _ _ _ _
def c_sfoot_Decode : ICode := (.seq r_sfoot_Decode_0 (.seq r_sfoot_Decode_1 (.seq r_sfoot_Decode_2 (.cond (.t 23) (.seq r_sfoot_Decode_3 .ret) (.seq r_sfoot_Decode_4 (.seq r_sfoot_Decode_5 (.seq (.seq r_sfoot_Decode_6 (.block 0 (.loop b_sfoot_Decode_30))) (.seq r_sfoot_Decode_31 (.cond (.t 122) (.seq r_sfoot_Decode_32 .ret) (.seq r_sfoot_Decode_33 .ret))))))))))
def i_sfoot_Decode : IFunc := ⟨1, [.cell 2 (some 2), .t 3], c_sfoot_Decode⟩
def a_sfoot_Decode : Advice := ⟨[96, 106], [(31, [2, 3]), (30, [2, 3]), (29, [2, 6, 122]), (28, [2, 6, 7, 26, 27, 28]), (26, [2, 6, 7, 26, 27, 28]), (27, [2, 6, 7, 26, 27, 28]), (25, [2, 6, 7, 12, 26, 27, 28, 85]), (24, [2, 6, 7, 9, 10, 12, 26, 27, 28, 61, 62]), (23, [2, 6, 7, 9, 10, 12, 26, 27, 28, 61, 62]), (22, [2, 6, 7, 9, 10, 12, 14, 15, 26, 27, 28, 61, 62]), (21, [2, 6, 7, 9, 10, 12, 14, 15, 26, 27, 28, 61, 62]), (20, [2, 6, 7, 9, 10, 12, 14, 26, 27, 28, 61, 62]), (19, [2, 6, 7, 9, 10, 12, 26, 27, 28, 61, 62, 63]), (18, [2, 6, 7, 9, 10, 12, 26, 27, 28, 61, 62]), (17, [2, 6, 7, 9, 10, 12, 13, 26, 27, 28]), (16, [2, 6, 7, 9, 10, 12, 13, 26, 27, 28, 57]), (15, [2, 6, 7, 9, 10, 12, 13, 26, 27, 28, 56]), (14, [2, 6, 7, 9, 10, 12, 13, 26, 27, 28]), (13, [2, 6, 7, 9, 10, 12, 26, 27, 28]), (12, [2, 3]), (11, [2, 6, 7, 9, 10, 11, 26, 27, 28, 52]), (10, [2, 6, 7, 9, 10, 11, 26, 27, 28]), (9, [2, 6, 7, 9, 26, 27, 28, 44]), (8, [2, 6, 7, 9, 26, 27, 28]), (7, [2, 6, 7, 26, 27, 28, 29]), (6, [2, 6, 7, 26, 27, 28]), (5, [2, 4, 6, 7]), (4, [2, 4, 6]), (3, [2, 3]), (2, [2, 4, 5, 23]), (1, [2, 4, 5]), (0, [0, 2])], [], [(8, [9]), (13, [12])], [], []⟩
/-! ingot/pb.PutBytes -/
@[go_sem] def r_pb_PutBytes_0_o : Ops := [
oo 6 (.asg (.c .nilS))]
def r_pb_PutBytes_0 := rg r_pb_PutBytes_0_o [0, 1, 2]
@[go_sem] theorem r_pb_PutBytes_0_u : Gr X K s r_pb_PutBytes_0 r_pb_PutBytes_0_o [0, 1, 2] := go_region _ _
@[go_sem] def r_pb_PutBytes_1_o : Ops := [
oo 10 (.mv (.t 0)), oo 11 (.mv (.t 1)), oo 12 (.call false n_pb_head [(.t 10), (.t 11), (ci 2)]), oo 9 (.mv (.t 12)), oo 13 (.ext (.t 9) 0), oo 14 (.ext (.t 9) 1), oo 7 (.asg (.t 13)), oo 8 (.asg (.t 14))]
def r_pb_PutBytes_1 := rg r_pb_PutBytes_1_o [2, 7, 8]
@[go_sem] theorem r_pb_PutBytes_1_u : Gr X K s r_pb_PutBytes_1 r_pb_PutBytes_1_o [2, 7, 8] := go_region _ _
@[go_sem] def r_pb_PutBytes_2_o : Ops := [
oo 15 (.mv (.t 8)), oo 16 (.un .not (.t 15))]
def r_pb_PutBytes_2 := rg r_pb_PutBytes_2_o [2, 7, 16]
@[go_sem] theorem r_pb_PutBytes_2_u : Gr X K s r_pb_PutBytes_2 r_pb_PutBytes_2_o [2, 7, 16] := go_region _ _
@[go_sem] def r_pb_PutBytes_3_o : Ops := [
oo 17 (.mv (.t 7)), oo 6 (.asg (.t 17))]
def r_pb_PutBytes_3 := rg r_pb_PutBytes_3_o [6]
@[go_sem] theorem r_pb_PutBytes_3_u : Gr X K s r_pb_PutBytes_3 r_pb_PutBytes_3_o [6] := go_region _ _
@[go_sem] def r_pb_PutBytes_4_o : Ops := [
oo 18 (.mv (.t 7)), oo 19 (.mv (.t 2)), oo 20 (.len false (.t 19)), oo 21 (.cvInt .u64 (.t 20)), oo 22 (.call true n_nums_PutVar [(.t 18), (.t 21)]), oo 23 (.mv (.t 2)), oo 24 (.append 1 1 (.t 22) (.t 23)), oo 25 (.call false n_slices_Clip_Sbyte_byte [(.t 24)]), oo 6 (.asg (.t 25))]
def r_pb_PutBytes_4 := rg r_pb_PutBytes_4_o [6]
@[go_sem] theorem r_pb_PutBytes_4_u : Gr X K s r_pb_PutBytes_4 r_pb_PutBytes_4_o [6] := go_region _ _
def c_pb_PutBytes : ICode := (.seq r_pb_PutBytes_0 (.seq r_pb_PutBytes_1 (.seq r_pb_PutBytes_2 (.cond (.t 16) (.seq r_pb_PutBytes_3 .ret) (.seq r_pb_PutBytes_4 .ret)))))
def i_pb_PutBytes : IFunc := ⟨3, [.t 6], c_pb_PutBytes⟩
def a_pb_PutBytes : Advice := ⟨[22], [(4, [6]), (3, [6]), (2, [2, 7, 16]), (1, [2, 7, 8]), (0, [0, 1, 2])], [], [], [], []⟩
/-! ingot/nums.PutVar -/
@[go_sem] def r_nums_PutVar_0_o : Ops := [
oo 4 (.asg (.c .nilS))]
def r_nums_PutVar_0 := rg r_nums_PutVar_0_o [0, 1]
@[go_sem] theorem r_nums_PutVar_0_u : Gr X K s r_nums_PutVar_0 r_nums_PutVar_0_o [0, 1] := go_region _ _
@[go_sem] def r_nums_PutVar_1_o : Ops := [
oo 6 (.mv (.t 0)), oo 7 (.call true n_slices_Clone_Sbyte_byte [(.t 6)]), oo 5 (.asg (.t 7))]
def r_nums_PutVar_1 := rg r_nums_PutVar_1_o [1, 5]
@[go_sem] theorem r_nums_PutVar_1_u : Gr X K s r_nums_PutVar_1 r_nums_PutVar_1_o [1, 5] := go_region _ _
@[go_sem] def r_nums_PutVar_2_o : Ops := [
oo 8 (.mv (.t 1)), oo 9 (.bin .geq (.t 8) (.c (.int .u64 128)))]
def r_nums_PutVar_2 := rg r_nums_PutVar_2_o [1, 5, 9]
@[go_sem] theorem r_nums_PutVar_2_u : Gr X K s r_nums_PutVar_2 r_nums_PutVar_2_o [1, 5, 9] := go_region _ _
@[go_sem] def r_nums_PutVar_3_o : Ops := [
oo 10 (.mv (.t 5)), oo 11 (.mv (.t 1)), oo 12 (.cvInt .u8 (.t 11)), oo 13 (.bin .or (.t 12) (.c (.int .u8 128))), oo 14 (.lit false 1 1 (.int .u8 0) [(0, (.t 13))]), oo 15 (.append 1 1 (.t 10) (.t 14)), oo 5 (.asg (.t 15))]
def r_nums_PutVar_3 := rg r_nums_PutVar_3_o [1, 5]
@[go_sem] theorem r_nums_PutVar_3_u : Gr X K s r_nums_PutVar_3 r_nums_PutVar_3_o [1, 5] := go_region _ _
@[go_sem] def r_nums_PutVar_4_o : Ops := [
oo 16 (.mv (.t 1)), oo 17 (.bin .shr (.t 16) (.c (.int .u64 7))), oo 1 (.asg (.t 17))]
def r_nums_PutVar_4 := rg r_nums_PutVar_4_o [1, 5]
@[go_sem] theorem r_nums_PutVar_4_u : Gr X K s r_nums_PutVar_4 r_nums_PutVar_4_o [1, 5] := go_region _ _
def b_nums_PutVar_5 : ICode := (.seq (.seq r_nums_PutVar_2 (.cond (.t 9) .skip (.exit 0))) (.block 1 (.seq r_nums_PutVar_3 r_nums_PutVar_4)))
@[go_sem] theorem b_nums_PutVar_5_u : Gn X K s b_nums_PutVar_5 (.seq (.seq r_nums_PutVar_2 (.cond (.t 9) .skip (.exit 0))) (.block 1 (.seq r_nums_PutVar_3 r_nums_PutVar_4))) := rfl
@[go_sem] def r_nums_PutVar_6_o : Ops := [
oo 18 (.mv (.t 5)), oo 19 (.mv (.t 1)), oo 20 (.cvInt .u8 (.t 19)), oo 21 (.lit false 1 1 (.int .u8 0) [(0, (.t 20))]), oo 22 (.append 1 1 (.t 18) (.t 21)), oo 23 (.call false n_slices_Clip_Sbyte_byte [(.t 22)]), oo 4 (.asg (.t 23))]
def r_nums_PutVar_6 := rg r_nums_PutVar_6_o [4]
@[go_sem] theorem r_nums_PutVar_6_u : Gr X K s r_nums_PutVar_6 r_nums_PutVar_6_o [4] := go_region _ _
def c_nums_PutVar : ICode := (.seq r_nums_PutVar_0 (.seq r_nums_PutVar_1 (.seq (.block 0 (.loop b_nums_PutVar_5)) (.seq r_nums_PutVar_6 .ret))))
def i_nums_PutVar : IFunc := ⟨2, [.t 4], c_nums_PutVar⟩
def a_nums_PutVar : Advice := ⟨[7, 15], [(5, [4]), (4, [1, 5]), (3, [1, 5]), (2, [1, 5, 9]), (1, [1, 5]), (0, [0, 1])], [], [], [], []⟩
/-! slices.Clone[[]byte,byte] -/
@[go_sem] def r_slices_Clone_Sbyte_byte_0_o : Ops := [
oo 2 (.asg (.c .nilS))]
def r_slices_Clone_Sbyte_byte_0 := rg r_slices_Clone_Sbyte_byte_0_o [0]
@[go_sem] theorem r_slices_Clone_Sbyte_byte_0_u : Gr X K s r_slices_Clone_Sbyte_byte_0 r_slices_Clone_Sbyte_byte_0_o [0] := go_region _ _
@[go_sem] def r_slices_Clone_Sbyte_byte_1_o : Ops := [
oo 3 (.mv (.t 0)), oo 4 (.isNil false (.t 3))]
def r_slices_Clone_Sbyte_byte_1 := rg r_slices_Clone_Sbyte_byte_1_o [0, 4]
@[go_sem] theorem r_slices_Clone_Sbyte_byte_1_u : Gr X K s r_slices_Clone_Sbyte_byte_1 r_slices_Clone_Sbyte_byte_1_o [0, 4] := go_region _ _
@[go_sem] def r_slices_Clone_Sbyte_byte_2_o : Ops := [
oo 2 (.asg (.c .nilS))]
def r_slices_Clone_Sbyte_byte_2 := rg r_slices_Clone_Sbyte_byte_2_o [2]
@[go_sem] theorem r_slices_Clone_Sbyte_byte_2_u : Gr X K s r_slices_Clone_Sbyte_byte_2 r_slices_Clone_Sbyte_byte_2_o [2] := go_region _ _
@[go_sem] def r_slices_Clone_Sbyte_byte_3_o : Ops := [
oo 5 (.lit true 1 0 (.int .u8 0) []), oo 6 (.mv (.t 0)), oo 7 (.append 1 1 (.t 5) (.t 6)), oo 2 (.asg (.t 7))]
def r_slices_Clone_Sbyte_byte_3 := rg r_slices_Clone_Sbyte_byte_3_o [2]
@[go_sem] theorem r_slices_Clone_Sbyte_byte_3_u : Gr X K s r_slices_Clone_Sbyte_byte_3 r_slices_Clone_Sbyte_byte_3_o [2] := go_region _ _
def c_slices_Clone_Sbyte_byte : ICode := (.seq r_slices_Clone_Sbyte_byte_0 (.seq r_slices_Clone_Sbyte_byte_1 (.cond (.t 4) (.seq r_slices_Clone_Sbyte_byte_2 .ret) (.seq r_slices_Clone_Sbyte_byte_3 .ret))))
def i_slices_Clone_Sbyte_byte : IFunc := ⟨1, [.t 2], c_slices_Clone_Sbyte_byte⟩
def a_slices_Clone_Sbyte_byte : Advice := ⟨[5], [(3, [2]), (2, [2]), (1, [0, 4]), (0, [0])], [], [], [], []⟩
/-! ingot/pb.head -/
@[go_sem] def r_pb_head_0_o : Ops := [
oo 6 (.asg (.c .nilS)), oo 7 (.asg (.c (.bool false)))]
def r_pb_head_0 := rg r_pb_head_0_o [0, 1, 2]
@[go_sem] theorem r_pb_head_0_u : Gr X K s r_pb_head_0 r_pb_head_0_o [0, 1, 2] := go_region _ _
@[go_sem] def r_pb_head_1_o : Ops := [
oo 8 (.mv (.t 1)), oo 9 (.bin .lss (.t 8) (ci 1)), oo 10 (.mv (.t 9)), og 11 10 false (.mv (.t 1)), og 12 10 false (.bin .gtr (.t 11) (ci 536870911)), oo 13 (.pick (.t 10) (.c (.bool true)) (.t 12))]
def r_pb_head_1 := rg r_pb_head_1_o [0, 1, 2, 13]
@[go_sem] theorem r_pb_head_1_u : Gr X K s r_pb_head_1 r_pb_head_1_o [0, 1, 2, 13] := go_region _ _
@[go_sem] def r_pb_head_2_o : Ops := [
oo 14 (.mv (.t 0)), oo 15 (.call false n_slices_Clone_Sbyte_byte [(.t 14)]), oo 6 (.asg (.t 15)), oo 7 (.asg (.c (.bool false)))]
def r_pb_head_2 := rg r_pb_head_2_o [6, 7]
@[go_sem] theorem r_pb_head_2_u : Gr X K s r_pb_head_2 r_pb_head_2_o [6, 7] := go_region _ _
@[go_sem] def r_pb_head_3_o : Ops := [
oo 16 (.mv (.t 0)), oo 17 (.mv (.t 1)), oo 18 (.cvInt .u64 (.t 17)), oo 19 (.bin .shl (.t 18) (.c (.int .u64 3))), oo 20 (.mv (.t 2)), oo 21 (.cvInt .u64 (.t 20)), oo 22 (.bin .or (.t 19) (.t 21)), oo 23 (.call false n_nums_PutVar [(.t 16), (.t 22)]), oo 6 (.asg (.t 23)), oo 7 (.asg (.c (.bool true)))]
def r_pb_head_3 := rg r_pb_head_3_o [6, 7]
@[go_sem] theorem r_pb_head_3_u : Gr X K s r_pb_head_3 r_pb_head_3_o [6, 7] := go_region _ _
def c_pb_head : ICode := (.seq r_pb_head_0 (.seq r_pb_head_1 (.cond (.t 13) (.seq r_pb_head_2 .ret) (.seq r_pb_head_3 .ret))))
def i_pb_head : IFunc := ⟨3, [.t 6, .t 7], c_pb_head⟩
def a_pb_head : Advice := ⟨[], [(3, [6, 7]), (2, [6, 7]), (1, [0, 1, 2, 13]), (0, [0, 1, 2])], [], [], [], []⟩
/-! ingot/pb.PutUint -/
@[go_sem] def r_pb_PutUint_0_o : Ops := [
oo 6 (.asg (.c .nilS))]
def r_pb_PutUint_0 := rg r_pb_PutUint_0_o [0, 1, 2]
@[go_sem] theorem r_pb_PutUint_0_u : Gr X K s r_pb_PutUint_0 r_pb_PutUint_0_o [0, 1, 2] := go_region _ _
@[go_sem] def r_pb_PutUint_1_o : Ops := [
oo 10 (.mv (.t 0)), oo 11 (.mv (.t 1)), oo 12 (.call false n_pb_head [(.t 10), (.t 11), (ci 0)]), oo 9 (.mv (.t 12)), oo 13 (.ext (.t 9) 0), oo 14 (.ext (.t 9) 1), oo 7 (.asg (.t 13)), oo 8 (.asg (.t 14))]
def r_pb_PutUint_1 := rg r_pb_PutUint_1_o [2, 7, 8]
@[go_sem] theorem r_pb_PutUint_1_u : Gr X K s r_pb_PutUint_1 r_pb_PutUint_1_o [2, 7, 8] := go_region _ _
@[go_sem] def r_pb_PutUint_2_o : Ops := [
oo 15 (.mv (.t 8)), oo 16 (.un .not (.t 15))]
def r_pb_PutUint_2 := rg r_pb_PutUint_2_o [2, 7, 16]
@[go_sem] theorem r_pb_PutUint_2_u : Gr X K s r_pb_PutUint_2 r_pb_PutUint_2_o [2, 7, 16] := go_region _ _
@[go_sem] def r_pb_PutUint_3_o : Ops := [
oo 17 (.mv (.t 7)), oo 6 (.asg (.t 17))]
def r_pb_PutUint_3 := rg r_pb_PutUint_3_o [6]
@[go_sem] theorem r_pb_PutUint_3_u : Gr X K s r_pb_PutUint_3 r_pb_PutUint_3_o [6] := go_region _ _
@[go_sem] def r_pb_PutUint_4_o : Ops := [
oo 18 (.mv (.t 7)), oo 19 (.mv (.t 2)), oo 20 (.call false n_nums_PutVar [(.t 18), (.t 19)]), oo 6 (.asg (.t 20))]
def r_pb_PutUint_4 := rg r_pb_PutUint_4_o [6]
@[go_sem] theorem r_pb_PutUint_4_u : Gr X K s r_pb_PutUint_4 r_pb_PutUint_4_o [6] := go_region _ _
def c_pb_PutUint : ICode := (.seq r_pb_PutUint_0 (.seq r_pb_PutUint_1 (.seq r_pb_PutUint_2 (.cond (.t 16) (.seq r_pb_PutUint_3 .ret) (.seq r_pb_PutUint_4 .ret)))))
def i_pb_PutUint : IFunc := ⟨3, [.t 6], c_pb_PutUint⟩
def a_pb_PutUint : Advice := ⟨[], [(4, [6]), (3, [6]), (2, [2, 7, 16]), (1, [2, 7, 8]), (0, [0, 1, 2])], [], [], [], []⟩
/-! ingot/sfoot.put -/
@[go_sem] def r_sfoot_put_0_o : Ops := [
oo 2 (.asg (.c .nilS))]
def r_sfoot_put_0 := rg r_sfoot_put_0_o [0]
@[go_sem] theorem r_sfoot_put_0_u : Gr X K s r_sfoot_put_0 r_sfoot_put_0_o [0] := go_region _ _
@[go_sem] def r_sfoot_put_1_o : Ops := [
oo 3 (.asg (.c .nilS))]
def r_sfoot_put_1 := rg r_sfoot_put_1_o [0, 3]
@[go_sem] theorem r_sfoot_put_1_u : Gr X K s r_sfoot_put_1 r_sfoot_put_1_o [0, 3] := go_region _ _
@[go_sem] def r_sfoot_put_2_o : Ops := [
oo 6 (.mv (.t 0)), oo 7 (.len false (.t 6)), oo 8 (.mv (ci 0))]
def r_sfoot_put_2 := rg r_sfoot_put_2_o [3, 6, 7, 8]
@[go_sem] theorem r_sfoot_put_2_u : Gr X K s r_sfoot_put_2 r_sfoot_put_2_o [3, 6, 7, 8] := go_region _ _
@[go_sem] def r_sfoot_put_3_o : Ops := [
oo 9 (.bin .lss (.t 8) (.t 7))]
def r_sfoot_put_3 := rg r_sfoot_put_3_o [3, 6, 7, 8, 9]
@[go_sem] theorem r_sfoot_put_3_u : Gr X K s r_sfoot_put_3 r_sfoot_put_3_o [3, 6, 7, 8, 9] := go_region _ _
@[go_sem] def r_sfoot_put_4_o : Ops := [
oo 10 (.mv (.t 8)), oo 11 (.idxA 1 (.t 6) (.t 8)), oo 12 (.load none (.t 11)), oo 4 (.asg (.t 10)), oo 5 (.asg (.t 12))]
def r_sfoot_put_4 := rg r_sfoot_put_4_o [3, 4, 5, 6, 7, 8]
@[go_sem] theorem r_sfoot_put_4_u : Gr X K s r_sfoot_put_4 r_sfoot_put_4_o [3, 4, 5, 6, 7, 8] := go_region _ _
@[go_sem] def r_sfoot_put_5_o : Ops := [
oo 13 (.mv (.t 3)), oo 14 (.mv (.t 4)), oo 15 (.bin .add (.t 14) (ci 1)), oo 16 (.mv (.t 5)), oo 17 (.cvInt .u64 (.t 16)), oo 18 (.call false n_pb_PutUint [(.t 13), (.t 15), (.t 17)]), oo 3 (.asg (.t 18))]
def r_sfoot_put_5 := rg r_sfoot_put_5_o [3, 6, 7, 8]
@[go_sem] theorem r_sfoot_put_5_u : Gr X K s r_sfoot_put_5 r_sfoot_put_5_o [3, 6, 7, 8] := go_region _ _
@[go_sem] def r_sfoot_put_6_o : Ops := [
oo 19 (.bin .add (.t 8) (ci 1)), oo 8 (.mv (.t 19))]
def r_sfoot_put_6 := rg r_sfoot_put_6_o [3, 6, 7, 8]
@[go_sem] theorem r_sfoot_put_6_u : Gr X K s r_sfoot_put_6 r_sfoot_put_6_o [3, 6, 7, 8] := go_region _ _
def b_sfoot_put_7 : ICode := (.seq r_sfoot_put_3 (.seq (.cond (.t 9) .skip (.exit 0)) (.seq (.block 1 (.seq r_sfoot_put_4 r_sfoot_put_5)) r_sfoot_put_6)))
@[go_sem] theorem b_sfoot_put_7_u : Gn X K s b_sfoot_put_7 (.seq r_sfoot_put_3 (.seq (.cond (.t 9) .skip (.exit 0)) (.seq (.block 1 (.seq r_sfoot_put_4 r_sfoot_put_5)) r_sfoot_put_6))) := rfl
@[go_sem] def r_sfoot_put_8_o : Ops := [
oo 20 (.mv (.t 3)), oo 2 (.asg (.t 20))]
def r_sfoot_put_8 := rg r_sfoot_put_8_o [2]
@[go_sem] theorem r_sfoot_put_8_u : Gr X K s r_sfoot_put_8 r_sfoot_put_8_o [2] := go_region _ _
def c_sfoot_put : ICode := (.seq r_sfoot_put_0 (.seq r_sfoot_put_1 (.seq (.seq r_sfoot_put_2 (.block 0 (.loop b_sfoot_put_7))) (.seq r_sfoot_put_8 .ret))))
def i_sfoot_put : IFunc := ⟨1, [.t 2], c_sfoot_put⟩
def a_sfoot_put : Advice := ⟨[], [(7, [2]), (6, [3, 6, 7, 8]), (5, [3, 6, 7, 8]), (4, [3, 4, 5, 6, 7, 8]), (3, [3, 6, 7, 8, 9]), (2, [3, 6, 7, 8]), (1, [0, 3]), (0, [0])], [], [], [], []⟩
/-! ingot/sfoot.in$1 -/
@[go_sem] def r_sfoot_in_1_0_o : Ops := [
oo 2 (.asg (.c (.bool false)))]
def r_sfoot_in_1_0 := rg r_sfoot_in_1_0_o [0]
@[go_sem] theorem r_sfoot_in_1_0_u : Gr X K s r_sfoot_in_1_0 r_sfoot_in_1_0_o [0] := go_region _ _
@[go_sem] def r_sfoot_in_1_1_o : Ops := [
oo 3 (.mv (.t 0)), oo 4 (.bin .lss (.t 3) (ci 0)), oo 5 (.mv (.t 4)), og 6 5 false (.mv (.t 0)), og 7 5 false (.bin .gtr (.t 6) (ci 262144)), oo 8 (.pick (.t 5) (.c (.bool true)) (.t 7)), oo 2 (.asg (.t 8))]
def r_sfoot_in_1_1 := rg r_sfoot_in_1_1_o [2]
@[go_sem] theorem r_sfoot_in_1_1_u : Gr X K s r_sfoot_in_1_1 r_sfoot_in_1_1_o [2] := go_region _ _
def c_sfoot_in_1 : ICode := (.seq r_sfoot_in_1_0 (.seq r_sfoot_in_1_1 .ret))
def i_sfoot_in_1 : IFunc := ⟨1, [.t 2], c_sfoot_in_1⟩
def a_sfoot_in_1 : Advice := ⟨[], [(1, [2]), (0, [0])], [], [], [], []⟩
/-! slices.IndexFunc[[]int,int] -/
@[go_sem] def r_slices_IndexFunc_Sint_int_0_o : Ops := [
oo 4 (.asg (ci 0))]
def r_slices_IndexFunc_Sint_int_0 := rg r_slices_IndexFunc_Sint_int_0_o [0, 1]
@[go_sem] theorem r_slices_IndexFunc_Sint_int_0_u : Gr X K s r_slices_IndexFunc_Sint_int_0 r_slices_IndexFunc_Sint_int_0_o [0, 1] := go_region _ _
@[go_sem] def r_slices_IndexFunc_Sint_int_1_o : Ops := [
oo 6 (.mv (.t 0)), oo 7 (.len false (.t 6)), oo 8 (.mv (ci 0))]
def r_slices_IndexFunc_Sint_int_1 := rg r_slices_IndexFunc_Sint_int_1_o [0, 1, 7, 8]
@[go_sem] theorem r_slices_IndexFunc_Sint_int_1_u : Gr X K s r_slices_IndexFunc_Sint_int_1 r_slices_IndexFunc_Sint_int_1_o [0, 1, 7, 8] := go_region _ _
@[go_sem] def r_slices_IndexFunc_Sint_int_2_o : Ops := [
oo 9 (.bin .lss (.t 8) (.t 7))]
def r_slices_IndexFunc_Sint_int_2 := rg r_slices_IndexFunc_Sint_int_2_o [0, 1, 7, 8, 9]
@[go_sem] theorem r_slices_IndexFunc_Sint_int_2_u : Gr X K s r_slices_IndexFunc_Sint_int_2 r_slices_IndexFunc_Sint_int_2_o [0, 1, 7, 8, 9] := go_region _ _
@[go_sem] def r_slices_IndexFunc_Sint_int_3_o : Ops := [
oo 10 (.mv (.t 8)), oo 5 (.asg (.t 10))]
def r_slices_IndexFunc_Sint_int_3 := rg r_slices_IndexFunc_Sint_int_3_o [0, 1, 5, 7, 8]
@[go_sem] theorem r_slices_IndexFunc_Sint_int_3_u : Gr X K s r_slices_IndexFunc_Sint_int_3 r_slices_IndexFunc_Sint_int_3_o [0, 1, 5, 7, 8] := go_region _ _
@[go_sem] def r_slices_IndexFunc_Sint_int_4_o : Ops := [
oo 11 (.mv (.t 1)), oo 12 (.mv (.t 0)), oo 13 (.mv (.t 5)), oo 14 (.idxA 1 (.t 12) (.t 13)), oo 15 (.load none (.t 14)), oo 16 (.callv false (.t 11) [(.t 15)])]
def r_slices_IndexFunc_Sint_int_4 := rg r_slices_IndexFunc_Sint_int_4_o [0, 1, 5, 7, 8, 16]
@[go_sem] theorem r_slices_IndexFunc_Sint_int_4_u : Gr X K s r_slices_IndexFunc_Sint_int_4 r_slices_IndexFunc_Sint_int_4_o [0, 1, 5, 7, 8, 16] := go_region _ _
@[go_sem] def r_slices_IndexFunc_Sint_int_5_o : Ops := [
oo 17 (.mv (.t 5)), oo 4 (.asg (.t 17))]
def r_slices_IndexFunc_Sint_int_5 := rg r_slices_IndexFunc_Sint_int_5_o [4]
@[go_sem] theorem r_slices_IndexFunc_Sint_int_5_u : Gr X K s r_slices_IndexFunc_Sint_int_5 r_slices_IndexFunc_Sint_int_5_o [4] := go_region _ _
@[go_sem] def r_slices_IndexFunc_Sint_int_6_o : Ops := [
oo 18 (.bin .add (.t 8) (ci 1)), oo 8 (.mv (.t 18))]
def r_slices_IndexFunc_Sint_int_6 := rg r_slices_IndexFunc_Sint_int_6_o [0, 1, 7, 8]
@[go_sem] theorem r_slices_IndexFunc_Sint_int_6_u : Gr X K s r_slices_IndexFunc_Sint_int_6 r_slices_IndexFunc_Sint_int_6_o [0, 1, 7, 8] := go_region _ _
def b_slices_IndexFunc_Sint_int_7 : ICode := (.seq r_slices_IndexFunc_Sint_int_2 (.seq (.cond (.t 9) .skip (.exit 0)) (.seq (.block 1 (.seq r_slices_IndexFunc_Sint_int_3 (.seq r_slices_IndexFunc_Sint_int_4 (.cond (.t 16) (.seq r_slices_IndexFunc_Sint_int_5 .ret) .skip)))) r_slices_IndexFunc_Sint_int_6)))
@[go_sem] theorem b_slices_IndexFunc_Sint_int_7_u : Gn X K s b_slices_IndexFunc_Sint_int_7 (.seq r_slices_IndexFunc_Sint_int_2 (.seq (.cond (.t 9) .skip (.exit 0)) (.seq (.block 1 (.seq r_slices_IndexFunc_Sint_int_3 (.seq r_slices_IndexFunc_Sint_int_4 (.cond (.t 16) (.seq r_slices_IndexFunc_Sint_int_5 .ret) .skip)))) r_slices_IndexFunc_Sint_int_6))) := rfl
@[go_sem] def r_slices_IndexFunc_Sint_int_8_o : Ops := [
oo 4 (.asg (ci (-1)))]
def r_slices_IndexFunc_Sint_int_8 := rg r_slices_IndexFunc_Sint_int_8_o [4]
@[go_sem] theorem r_slices_IndexFunc_Sint_int_8_u : Gr X K s r_slices_IndexFunc_Sint_int_8 r_slices_IndexFunc_Sint_int_8_o [4] := go_region _ _
def c_slices_IndexFunc_Sint_int : ICode := (.seq r_slices_IndexFunc_Sint_int_0 (.seq (.seq r_slices_IndexFunc_Sint_int_1 (.block 0 (.loop b_slices_IndexFunc_Sint_int_7))) (.seq r_slices_IndexFunc_Sint_int_8 .ret)))
def i_slices_IndexFunc_Sint_int : IFunc := ⟨2, [.t 4], c_slices_IndexFunc_Sint_int⟩
def a_slices_IndexFunc_Sint_int : Advice := ⟨[], [(7, [4]), (6, [0, 1, 7, 8]), (5, [4]), (4, [0, 1, 5, 7, 8, 16]), (3, [0, 1, 5, 7, 8]), (2, [0, 1, 7, 8, 9]), (1, [0, 1, 7, 8]), (0, [0, 1])], [], [], [], []⟩
/-! slices.ContainsFunc[[]int,int] -/
@[go_sem] def r_slices_ContainsFunc_Sint_int_0_o : Ops := [
oo 4 (.asg (.c (.bool false)))]
def r_slices_ContainsFunc_Sint_int_0 := rg r_slices_ContainsFunc_Sint_int_0_o [0, 1]
@[go_sem] theorem r_slices_ContainsFunc_Sint_int_0_u : Gr X K s r_slices_ContainsFunc_Sint_int_0 r_slices_ContainsFunc_Sint_int_0_o [0, 1] := go_region _ _
@[go_sem] def r_slices_ContainsFunc_Sint_int_1_o : Ops := [
oo 5 (.mv (.t 0)), oo 6 (.mv (.t 1)), oo 7 (.call false n_slices_IndexFunc_Sint_int [(.t 5), (.t 6)]), oo 8 (.bin .geq (.t 7) (ci 0)), oo 4 (.asg (.t 8))]
def r_slices_ContainsFunc_Sint_int_1 := rg r_slices_ContainsFunc_Sint_int_1_o [4]
@[go_sem] theorem r_slices_ContainsFunc_Sint_int_1_u : Gr X K s r_slices_ContainsFunc_Sint_int_1 r_slices_ContainsFunc_Sint_int_1_o [4] := go_region _ _
def c_slices_ContainsFunc_Sint_int : ICode := (.seq r_slices_ContainsFunc_Sint_int_0 (.seq r_slices_ContainsFunc_Sint_int_1 .ret))
def i_slices_ContainsFunc_Sint_int : IFunc := ⟨2, [.t 4], c_slices_ContainsFunc_Sint_int⟩
def a_slices_ContainsFunc_Sint_int : Advice := ⟨[], [(1, [4]), (0, [0, 1])], [], [], [], []⟩
/-! ingot/sfoot.in -/
@[go_sem] def r_sfoot_in_0_o : Ops := [
oo 2 (.asg (.c (.bool false)))]
def r_sfoot_in_0 := rg r_sfoot_in_0_o [0]
@[go_sem] theorem r_sfoot_in_0_u : Gr X K s r_sfoot_in_0 r_sfoot_in_0_o [0] := go_region _ _
@[go_sem] def r_sfoot_in_1_o : Ops := [
oo 3 (.mv (.t 0)), oo 4 (.call false n_slices_ContainsFunc_Sint_int [(.t 3), (.c (.fn n_sfoot_in_1))]), oo 5 (.un .not (.t 4)), oo 2 (.asg (.t 5))]
def r_sfoot_in_1 := rg r_sfoot_in_1_o [2]
@[go_sem] theorem r_sfoot_in_1_u : Gr X K s r_sfoot_in_1 r_sfoot_in_1_o [2] := go_region _ _
def c_sfoot_in : ICode := (.seq r_sfoot_in_0 (.seq r_sfoot_in_1 .ret))
def i_sfoot_in : IFunc := ⟨1, [.t 2], c_sfoot_in⟩
def a_sfoot_in : Advice := ⟨[], [(1, [2]), (0, [0])], [], [], [], []⟩
/-! ingot/sfoot.Encode -/
@[go_sem] def r_sfoot_Encode_0_o : Ops := [
oo 1 (.box 2 (.t 0)), oo 2 (.asg (.c .nilS)), oo 3 (.asg (ci 0))]
def r_sfoot_Encode_0 := rg r_sfoot_Encode_0_o [1]
@[go_sem] theorem r_sfoot_Encode_0_u : Gr X K s r_sfoot_Encode_0 r_sfoot_Encode_0_o [1] := go_region _ _
@[go_sem] def r_sfoot_Encode_1_o : Ops := [
oo 11 (.fieldA 0 (.t 1)), oo 12 (.load none (.t 11)), oo 13 (.len false (.t 12)), oo 14 (.bin .leq (.t 13) (ci 800)), oo 15 (.mv (.t 14)), og 16 15 true (.fieldA 1 (.t 1)), og 17 15 true (.load none (.t 16)), og 18 15 true (.len false (.t 17)), og 19 15 true (.bin .leq (.t 18) (ci 100)), oo 20 (.pick (.t 15) (.t 19) (.c (.bool false))), oo 4 (.asg (.t 20))]
def r_sfoot_Encode_1 := rg r_sfoot_Encode_1_o [1, 4]
@[go_sem] theorem r_sfoot_Encode_1_u : Gr X K s r_sfoot_Encode_1 r_sfoot_Encode_1_o [1, 4] := go_region _ _
@[go_sem] def r_sfoot_Encode_2_o : Ops := [
oo 5 (.asg (.c .nilS))]
def r_sfoot_Encode_2 := rg r_sfoot_Encode_2_o [1, 4, 5]
@[go_sem] theorem r_sfoot_Encode_2_u : Gr X K s r_sfoot_Encode_2 r_sfoot_Encode_2_o [1, 4, 5] := go_region _ _
@[go_sem] def r_sfoot_Encode_3_o : Ops := [
oo 21 (.fieldA 0 (.t 1)), oo 22 (.load none (.t 21)), oo 23 (.len false (.t 22)), oo 24 (.mv (ci 0))]
def r_sfoot_Encode_3 := rg r_sfoot_Encode_3_o [1, 4, 5, 22, 23, 24]
@[go_sem] theorem r_sfoot_Encode_3_u : Gr X K s r_sfoot_Encode_3 r_sfoot_Encode_3_o [1, 4, 5, 22, 23, 24] := go_region _ _
@[go_sem] def r_sfoot_Encode_4_o : Ops := [
oo 25 (.bin .lss (.t 24) (.t 23))]
def r_sfoot_Encode_4 := rg r_sfoot_Encode_4_o [1, 4, 5, 22, 23, 24, 25]
@[go_sem] theorem r_sfoot_Encode_4_u : Gr X K s r_sfoot_Encode_4 r_sfoot_Encode_4_o [1, 4, 5, 22, 23, 24, 25] := go_region _ _
@[go_sem] def r_sfoot_Encode_5_o : Ops := [
oo 26 (.idxA 3 (.t 22) (.t 24)), oo 27 (.load (some 3) (.t 26)), oo 7 (.alloc [(.int .i64 0), (.int .i64 0), (.int .i64 0)]), ow (.store 3 (.t 7) (.t 27))]
def r_sfoot_Encode_5 := rg r_sfoot_Encode_5_o [1, 4, 5, 7, 22, 23, 24]
@[go_sem] theorem r_sfoot_Encode_5_u : Gr X K s r_sfoot_Encode_5 r_sfoot_Encode_5_o [1, 4, 5, 7, 22, 23, 24] := go_region _ _
@[go_sem] def r_sfoot_Encode_6_o : Ops := [
oo 28 (.mv (.t 4)), oo 29 (.mv (.t 28)), og 30 29 true (.fieldA 0 (.t 7)), og 31 29 true (.load none (.t 30)), og 32 29 true (.fieldA 1 (.t 7)), og 33 29 true (.load none (.t 32)), og 34 29 true (.fieldA 2 (.t 7)), og 35 29 true (.load none (.t 34)), og 36 29 true (.lit false 1 3 (.int .i64 0) [(0, (.t 31)), (1, (.t 33)), (2, (.t 35))]), og 37 29 true (.call false n_sfoot_in [(.t 36)]), oo 38 (.pick (.t 29) (.t 37) (.c (.bool false))), oo 4 (.asg (.t 38))]
def r_sfoot_Encode_6 := rg r_sfoot_Encode_6_o [1, 4, 5, 7, 22, 23, 24]
@[go_sem] theorem r_sfoot_Encode_6_u : Gr X K s r_sfoot_Encode_6 r_sfoot_Encode_6_o [1, 4, 5, 7, 22, 23, 24] := go_region _ _
@[go_sem] def r_sfoot_Encode_7_o : Ops := [
oo 39 (.mv (.t 4))]
def r_sfoot_Encode_7 := rg r_sfoot_Encode_7_o [1, 4, 5, 7, 22, 23, 24, 39]
@[go_sem] theorem r_sfoot_Encode_7_u : Gr X K s r_sfoot_Encode_7 r_sfoot_Encode_7_o [1, 4, 5, 7, 22, 23, 24, 39] := go_region _ _
@[go_sem] def r_sfoot_Encode_8_o : Ops := [
oo 40 (.mv (.t 5)), oo 41 (.fieldA 0 (.t 7)), oo 42 (.load none (.t 41)), oo 43 (.fieldA 1 (.t 7)), oo 44 (.load none (.t 43)), oo 45 (.fieldA 2 (.t 7)), oo 46 (.load none (.t 45)), oo 47 (.lit false 1 3 (.int .i64 0) [(0, (.t 42)), (1, (.t 44)), (2, (.t 46))]), oo 48 (.call false n_sfoot_put [(.t 47)]), oo 49 (.call false n_pb_PutBytes [(.t 40), (ci 1), (.t 48)]), oo 5 (.asg (.t 49))]
def r_sfoot_Encode_8 := rg r_sfoot_Encode_8_o [1, 4, 5, 22, 23, 24]
@[go_sem] theorem r_sfoot_Encode_8_u : Gr X K s r_sfoot_Encode_8 r_sfoot_Encode_8_o [1, 4, 5, 22, 23, 24] := go_region _ _
@[go_sem] def r_sfoot_Encode_9_o : Ops := [
oo 50 (.bin .add (.t 24) (ci 1)), oo 24 (.mv (.t 50))]
def r_sfoot_Encode_9 := rg r_sfoot_Encode_9_o [1, 4, 5, 22, 23, 24]
@[go_sem] theorem r_sfoot_Encode_9_u : Gr X K s r_sfoot_Encode_9 r_sfoot_Encode_9_o [1, 4, 5, 22, 23, 24] := go_region _ _
def b_sfoot_Encode_10 : ICode := (.seq r_sfoot_Encode_4 (.seq (.cond (.t 25) .skip (.exit 0)) (.seq (.block 1 (.seq (.seq (.free 7) r_sfoot_Encode_5) (.seq r_sfoot_Encode_6 (.seq r_sfoot_Encode_7 (.cond (.t 39) r_sfoot_Encode_8 .skip))))) r_sfoot_Encode_9)))
@[go_sem] theorem b_sfoot_Encode_10_u : Gn X K s b_sfoot_Encode_10 (.seq r_sfoot_Encode_4 (.seq (.cond (.t 25) .skip (.exit 0)) (.seq (.block 1 (.seq (.seq (.free 7) r_sfoot_Encode_5) (.seq r_sfoot_Encode_6 (.seq r_sfoot_Encode_7 (.cond (.t 39) r_sfoot_Encode_8 .skip))))) r_sfoot_Encode_9))) := rfl
@[go_sem] def r_sfoot_Encode_11_o : Ops := [
oo 51 (.fieldA 1 (.t 1)), oo 52 (.load none (.t 51)), oo 53 (.len false (.t 52)), oo 54 (.mv (ci 0))]
def r_sfoot_Encode_11 := rg r_sfoot_Encode_11_o [4, 5, 52, 53, 54]
@[go_sem] theorem r_sfoot_Encode_11_u : Gr X K s r_sfoot_Encode_11 r_sfoot_Encode_11_o [4, 5, 52, 53, 54] := go_region _ _
@[go_sem] def r_sfoot_Encode_12_o : Ops := [
oo 55 (.bin .lss (.t 54) (.t 53))]
def r_sfoot_Encode_12 := rg r_sfoot_Encode_12_o [4, 5, 52, 53, 54, 55]
@[go_sem] theorem r_sfoot_Encode_12_u : Gr X K s r_sfoot_Encode_12 r_sfoot_Encode_12_o [4, 5, 52, 53, 54, 55] := go_region _ _
@[go_sem] def r_sfoot_Encode_13_o : Ops := [
oo 56 (.idxA 2 (.t 52) (.t 54)), oo 57 (.load (some 2) (.t 56)), oo 9 (.alloc [(.int .i64 0), (.int .i64 0)]), ow (.store 2 (.t 9) (.t 57))]
def r_sfoot_Encode_13 := rg r_sfoot_Encode_13_o [4, 5, 9, 52, 53, 54]
@[go_sem] theorem r_sfoot_Encode_13_u : Gr X K s r_sfoot_Encode_13 r_sfoot_Encode_13_o [4, 5, 9, 52, 53, 54] := go_region _ _
@[go_sem] def r_sfoot_Encode_14_o : Ops := [
oo 58 (.mv (.t 4)), oo 59 (.mv (.t 58)), og 60 59 true (.fieldA 0 (.t 9)), og 61 59 true (.load none (.t 60)), og 62 59 true (.fieldA 1 (.t 9)), og 63 59 true (.load none (.t 62)), og 64 59 true (.lit false 1 2 (.int .i64 0) [(0, (.t 61)), (1, (.t 63))]), og 65 59 true (.call false n_sfoot_in [(.t 64)]), oo 66 (.pick (.t 59) (.t 65) (.c (.bool false))), oo 4 (.asg (.t 66))]
def r_sfoot_Encode_14 := rg r_sfoot_Encode_14_o [4, 5, 9, 52, 53, 54]
@[go_sem] theorem r_sfoot_Encode_14_u : Gr X K s r_sfoot_Encode_14 r_sfoot_Encode_14_o [4, 5, 9, 52, 53, 54] := go_region _ _
@[go_sem] def r_sfoot_Encode_15_o : Ops := [
oo 67 (.mv (.t 4)), oo 68 (.un .not (.t 67))]
def r_sfoot_Encode_15 := rg r_sfoot_Encode_15_o [4, 5, 9, 52, 53, 54, 68]
@[go_sem] theorem r_sfoot_Encode_15_u : Gr X K s r_sfoot_Encode_15 r_sfoot_Encode_15_o [4, 5, 9, 52, 53, 54, 68] := go_region _ _
@[go_sem] def r_sfoot_Encode_16_o : Ops := [
oo 69 (.fieldA 0 (.t 9)), oo 70 (.load none (.t 69)), oo 71 (.lit false 1 1 (.int .i64 0) [(0, (.t 70))]), oo 72 (.call false n_sfoot_put [(.t 71)]), oo 10 (.asg (.t 72))]
def r_sfoot_Encode_16 := rg r_sfoot_Encode_16_o [4, 5, 9, 10, 52, 53, 54]
@[go_sem] theorem r_sfoot_Encode_16_u : Gr X K s r_sfoot_Encode_16 r_sfoot_Encode_16_o [4, 5, 9, 10, 52, 53, 54] := go_region _ _
@[go_sem] def r_sfoot_Encode_17_o : Ops := [
oo 73 (.fieldA 1 (.t 9)), oo 74 (.load none (.t 73)), oo 75 (.bin .gtr (.t 74) (ci 0))]
def r_sfoot_Encode_17 := rg r_sfoot_Encode_17_o [4, 5, 9, 10, 52, 53, 54, 75]
@[go_sem] theorem r_sfoot_Encode_17_u : Gr X K s r_sfoot_Encode_17 r_sfoot_Encode_17_o [4, 5, 9, 10, 52, 53, 54, 75] := go_region _ _
@[go_sem] def r_sfoot_Encode_18_o : Ops := [
oo 76 (.fieldA 0 (.t 9)), oo 77 (.load none (.t 76)), oo 78 (.fieldA 1 (.t 9)), oo 79 (.load none (.t 78)), oo 80 (.lit false 1 2 (.int .i64 0) [(0, (.t 77)), (1, (.t 79))]), oo 81 (.call false n_sfoot_put [(.t 80)]), oo 10 (.asg (.t 81))]
def r_sfoot_Encode_18 := rg r_sfoot_Encode_18_o [4, 5, 10, 52, 53, 54]
@[go_sem] theorem r_sfoot_Encode_18_u : Gr X K s r_sfoot_Encode_18 r_sfoot_Encode_18_o [4, 5, 10, 52, 53, 54] := go_region _ _
@[go_sem] def r_sfoot_Encode_19_o : Ops := [
oo 82 (.mv (.t 5)), oo 83 (.mv (.t 10)), oo 84 (.call false n_pb_PutBytes [(.t 82), (ci 2), (.t 83)]), oo 5 (.asg (.t 84))]
def r_sfoot_Encode_19 := rg r_sfoot_Encode_19_o [4, 5, 52, 53, 54]
@[go_sem] theorem r_sfoot_Encode_19_u : Gr X K s r_sfoot_Encode_19 r_sfoot_Encode_19_o [4, 5, 52, 53, 54] := go_region _ _
@[go_sem] def r_sfoot_Encode_20_o : Ops := [
oo 85 (.bin .add (.t 54) (ci 1)), oo 54 (.mv (.t 85))]
def r_sfoot_Encode_20 := rg r_sfoot_Encode_20_o [4, 5, 52, 53, 54]
@[go_sem] theorem r_sfoot_Encode_20_u : Gr X K s r_sfoot_Encode_20 r_sfoot_Encode_20_o [4, 5, 52, 53, 54] := go_region _ _
def b_sfoot_Encode_21 : ICode := (.seq r_sfoot_Encode_12 (.seq (.cond (.t 55) .skip (.exit 2)) (.seq (.block 3 (.seq (.seq (.free 9) r_sfoot_Encode_13) (.seq (.seq r_sfoot_Encode_14 (.seq r_sfoot_Encode_15 (.cond (.t 68) (.exit 2) .skip))) (.seq r_sfoot_Encode_16 (.seq (.seq r_sfoot_Encode_17 (.cond (.t 75) r_sfoot_Encode_18 .skip)) r_sfoot_Encode_19))))) r_sfoot_Encode_20)))
@[go_sem] theorem b_sfoot_Encode_21_u : Gn X K s b_sfoot_Encode_21 (.seq r_sfoot_Encode_12 (.seq (.cond (.t 55) .skip (.exit 2)) (.seq (.block 3 (.seq (.seq (.free 9) r_sfoot_Encode_13) (.seq (.seq r_sfoot_Encode_14 (.seq r_sfoot_Encode_15 (.cond (.t 68) (.exit 2) .skip))) (.seq r_sfoot_Encode_16 (.seq (.seq r_sfoot_Encode_17 (.cond (.t 75) r_sfoot_Encode_18 .skip)) r_sfoot_Encode_19))))) r_sfoot_Encode_20))) := rfl
@[go_sem] def r_sfoot_Encode_22_o : Ops := [
oo 86 (.mv (.t 5)), oo 87 (.lit true 1 3 (.int .u8 0) [(0, (.c (.int .u8 85))), (1, (.c (.int .u8 84))), (2, (.c (.int .u8 67)))]), oo 88 (.cvB false (.t 87)), oo 89 (.call false n_pb_PutBytes [(.t 86), (ci 3), (.t 88)]), oo 5 (.asg (.t 89))]
def r_sfoot_Encode_22 := rg r_sfoot_Encode_22_o [4, 5]
@[go_sem] theorem r_sfoot_Encode_22_u : Gr X K s r_sfoot_Encode_22 r_sfoot_Encode_22_o [4, 5] := go_region _ _
@[go_sem] def r_sfoot_Encode_23_o : Ops := [
oo 91 (.mv (.t 4)), oo 92 (.un .not (.t 91)), oo 90 (.asg (.t 92))]
def r_sfoot_Encode_23 := rg r_sfoot_Encode_23_o [5, 90]
@[go_sem] theorem r_sfoot_Encode_23_u : Gr X K s r_sfoot_Encode_23 r_sfoot_Encode_23_o [5, 90] := go_region _ _
@[go_sem] def r_sfoot_Encode_24_o : Ops := [
oo 2 (.asg (.c .nilS)), oo 3 (.asg (ci 1))]
def r_sfoot_Encode_24 := rg r_sfoot_Encode_24_o [2, 3]
@[go_sem] theorem r_sfoot_Encode_24_u : Gr X K s r_sfoot_Encode_24 r_sfoot_Encode_24_o [2, 3] := go_region _ _
@[go_sem] def r_sfoot_Encode_25_o : Ops := [
oo 94 (.mv (.t 5)), oo 95 (.len false (.t 94)), oo 96 (.bin .gtr (.t 95) (ci 65536)), oo 93 (.asg (.t 96))]
def r_sfoot_Encode_25 := rg r_sfoot_Encode_25_o [5, 93]
@[go_sem] theorem r_sfoot_Encode_25_u : Gr X K s r_sfoot_Encode_25 r_sfoot_Encode_25_o [5, 93] := go_region _ _
@[go_sem] def r_sfoot_Encode_26_o : Ops := [
oo 2 (.asg (.c .nilS)), oo 3 (.asg (ci 4))]
def r_sfoot_Encode_26 := rg r_sfoot_Encode_26_o [2, 3]
@[go_sem] theorem r_sfoot_Encode_26_u : Gr X K s r_sfoot_Encode_26 r_sfoot_Encode_26_o [2, 3] := go_region _ _
@[go_sem] def r_sfoot_Encode_27_o : Ops := [
oo 97 (.mv (.t 5)), oo 2 (.asg (.t 97)), oo 3 (.asg (ci 0))]
def r_sfoot_Encode_27 := rg r_sfoot_Encode_27_o [2, 3]
@[go_sem] theorem r_sfoot_Encode_27_u : Gr X K s r_sfoot_Encode_27 r_sfoot_Encode_27_o [2, 3] := go_region _ _
def c_sfoot_Encode : ICode := (.seq r_sfoot_Encode_0 (.seq r_sfoot_Encode_1 (.seq r_sfoot_Encode_2 (.seq (.seq r_sfoot_Encode_3 (.block 0 (.loop b_sfoot_Encode_10))) (.seq (.seq r_sfoot_Encode_11 (.block 2 (.loop b_sfoot_Encode_21))) (.seq r_sfoot_Encode_22 (.seq (.block 4 (.seq r_sfoot_Encode_23 (.cond (.t 90) (.seq r_sfoot_Encode_24 .ret) (.seq r_sfoot_Encode_25 (.cond (.t 93) (.seq r_sfoot_Encode_26 .ret) .skip))))) (.seq r_sfoot_Encode_27 .ret))))))))
def i_sfoot_Encode : IFunc := ⟨1, [.t 2, .t 3], c_sfoot_Encode⟩
def a_sfoot_Encode : Advice := ⟨[87], [(25, [2, 3]), (22, [2, 3]), (24, [2, 3]), (23, [5, 93]), (21, [5, 90]), (20, [4, 5]), (19, [4, 5, 52, 53, 54]), (18, [4, 5, 52, 53, 54]), (17, [4, 5, 10, 52, 53, 54]), (16, [4, 5, 9, 10, 52, 53, 54, 75]), (15, [4, 5, 9, 10, 52, 53, 54]), (14, [4, 5, 9, 52, 53, 54, 68]), (13, [4, 5, 9, 52, 53, 54]), (12, [4, 5, 9, 52, 53, 54]), (11, [4, 5, 52, 53, 54, 55]), (10, [4, 5, 52, 53, 54]), (9, [1, 4, 5, 22, 23, 24]), (8, [1, 4, 5, 22, 23, 24]), (7, [1, 4, 5, 7, 22, 23, 24, 39]), (6, [1, 4, 5, 7, 22, 23, 24]), (5, [1, 4, 5, 7, 22, 23, 24]), (4, [1, 4, 5, 22, 23, 24, 25]), (3, [1, 4, 5, 22, 23, 24]), (2, [1, 4, 5]), (1, [1, 4]), (0, [1])], [], [(5, [7]), (12, [9])], [], []⟩
/-! ingot/ingotlaw22.PlaceBytes -/
@[go_sem] def r_ingotlaw22_PlaceBytes_0_o : Ops := [
oo 2 (.asg (.c (.bool false)))]
def r_ingotlaw22_PlaceBytes_0 := rg r_ingotlaw22_PlaceBytes_0_o [0]
@[go_sem] theorem r_ingotlaw22_PlaceBytes_0_u : Gr X K s r_ingotlaw22_PlaceBytes_0 r_ingotlaw22_PlaceBytes_0_o [0] := go_region _ _
@[go_sem] def r_ingotlaw22_PlaceBytes_1_o : Ops := [
oo 7 (.call false n_ingotlaw22_known []), oo 8 (.un .not (.t 7))]
def r_ingotlaw22_PlaceBytes_1 := rg r_ingotlaw22_PlaceBytes_1_o [0, 8]
@[go_sem] theorem r_ingotlaw22_PlaceBytes_1_u : Gr X K s r_ingotlaw22_PlaceBytes_1 r_ingotlaw22_PlaceBytes_1_o [0, 8] := go_region _ _
@[go_sem] def r_ingotlaw22_PlaceBytes_2_o : Ops := [
oo 2 (.asg (.c (.bool false)))]
def r_ingotlaw22_PlaceBytes_2 := rg r_ingotlaw22_PlaceBytes_2_o [2]
@[go_sem] theorem r_ingotlaw22_PlaceBytes_2_u : Gr X K s r_ingotlaw22_PlaceBytes_2 r_ingotlaw22_PlaceBytes_2_o [2] := go_region _ _
@[go_sem] def r_ingotlaw22_PlaceBytes_3_o : Ops := [
oo 9 (.mv (.t 0)), oo 10 (.len false (.t 9)), oo 11 (.bin .gtr (.t 10) (ci 2000))]
def r_ingotlaw22_PlaceBytes_3 := rg r_ingotlaw22_PlaceBytes_3_o [0, 11]
@[go_sem] theorem r_ingotlaw22_PlaceBytes_3_u : Gr X K s r_ingotlaw22_PlaceBytes_3 r_ingotlaw22_PlaceBytes_3_o [0, 11] := go_region _ _
@[go_sem] def r_ingotlaw22_PlaceBytes_4_o : Ops := [
oo 2 (.asg (.c (.bool true)))]
def r_ingotlaw22_PlaceBytes_4 := rg r_ingotlaw22_PlaceBytes_4_o [2]
@[go_sem] theorem r_ingotlaw22_PlaceBytes_4_u : Gr X K s r_ingotlaw22_PlaceBytes_4 r_ingotlaw22_PlaceBytes_4_o [2] := go_region _ _
@[go_sem] def r_ingotlaw22_PlaceBytes_5_o : Ops := [
oo 13 (.mv (.t 0)), oo 14 (.call false n_sfoot_Decode [(.t 13)]), oo 12 (.mv (.t 14)), oo 15 (.ext (.t 12) 0), oo 16 (.ext (.t 12) 1), oo 3 (.alloc [.nilS, .nilS]), ow (.store 2 (.t 3) (.t 15)), oo 4 (.asg (.t 16))]
def r_ingotlaw22_PlaceBytes_5 := rg r_ingotlaw22_PlaceBytes_5_o [0, 3, 4]
@[go_sem] theorem r_ingotlaw22_PlaceBytes_5_u : Gr X K s r_ingotlaw22_PlaceBytes_5 r_ingotlaw22_PlaceBytes_5_o [0, 3, 4] := go_region _ _
@[go_sem] def r_ingotlaw22_PlaceBytes_6_o : Ops := [
oo 18 (.mv (.t 0)), oo 19 (.call false n_ingotref22_Decode [(.t 18)]), oo 17 (.mv (.t 19)), oo 20 (.ext (.t 17) 0), oo 21 (.ext (.t 17) 1), oo 5 (.alloc [.nilS, .nilS]), ow (.store 2 (.t 5) (.t 20)), oo 6 (.asg (.t 21))]
def r_ingotlaw22_PlaceBytes_6 := rg r_ingotlaw22_PlaceBytes_6_o [3, 4, 5, 6]
@[go_sem] theorem r_ingotlaw22_PlaceBytes_6_u : Gr X K s r_ingotlaw22_PlaceBytes_6 r_ingotlaw22_PlaceBytes_6_o [3, 4, 5, 6] := go_region _ _
@[go_sem] def r_ingotlaw22_PlaceBytes_7_o : Ops := [
oo 22 (.mv (.t 4)), oo 23 (.mv (.t 6)), oo 24 (.bin .eql (.t 22) (.t 23)), oo 25 (.mv (.t 24)), og 26 25 true (.load (some 2) (.t 3)), og 27 25 true (.call false n_ingotlaw22_Of [(.t 26)]), og 28 25 true (.load (some 2) (.t 5)), og 29 25 true (.call false n_ingotlaw22_same [(.t 27), (.t 28)]), oo 30 (.pick (.t 25) (.t 29) (.c (.bool false))), oo 2 (.asg (.t 30))]
def r_ingotlaw22_PlaceBytes_7_n : List (Nat × Nat) := [(0, 1), (4, 6), (5, 6)]
def r_ingotlaw22_PlaceBytes_7 : ICode := .region r_ingotlaw22_PlaceBytes_7_o r_ingotlaw22_PlaceBytes_7_n [2]
@[go_sem] theorem r_ingotlaw22_PlaceBytes_7_u : go X (.c r_ingotlaw22_PlaceBytes_7 :: K) s = goRU X [] r_ingotlaw22_PlaceBytes_7_n r_ingotlaw22_PlaceBytes_7_o [2] K s := go_regionU' _ _ _ _
def c_ingotlaw22_PlaceBytes : ICode := (.seq r_ingotlaw22_PlaceBytes_0 (.seq r_ingotlaw22_PlaceBytes_1 (.cond (.t 8) (.seq r_ingotlaw22_PlaceBytes_2 .ret) (.seq r_ingotlaw22_PlaceBytes_3 (.cond (.t 11) (.seq r_ingotlaw22_PlaceBytes_4 .ret) (.seq r_ingotlaw22_PlaceBytes_5 (.seq r_ingotlaw22_PlaceBytes_6 (.seq r_ingotlaw22_PlaceBytes_7 .ret))))))))
def i_ingotlaw22_PlaceBytes : IFunc := ⟨1, [.t 2], c_ingotlaw22_PlaceBytes⟩
def a_ingotlaw22_PlaceBytes : Advice := ⟨[], [(7, [2]), (6, [3, 4, 5, 6]), (5, [0, 3, 4]), (4, [2]), (3, [0, 11]), (2, [2]), (1, [0, 8]), (0, [0])], [], [], [], []⟩
/-! the tables -/
def tbl : List (FuncId × IFunc) := [(n_ingotref1_Zig, i_ingotref1_Zig), (n_ingotref1_Zag, i_ingotref1_Zag), (n_ingotlaw22_PlaceBounds, i_ingotlaw22_PlaceBounds), (n_ingotlaw22_PlaceOrder, i_ingotlaw22_PlaceOrder), (n_ingotref3_PutBytes, i_ingotref3_PutBytes), (n_ingotref1_PutVar, i_ingotref1_PutVar), (n_ingotref3_may, i_ingotref3_may), (n_ingotref3_PutUint, i_ingotref3_PutUint), (n_ingotref22_in, i_ingotref22_in), (n_ingotref22_Encode, i_ingotref22_Encode), (n_ingotlaw22_PlaceBack, i_ingotlaw22_PlaceBack), (n_ingotlaw22_same, i_ingotlaw22_same), (n_ingotlaw22_Of, i_ingotlaw22_Of), (n_ingotref3_Uint, i_ingotref3_Uint), (n_ingotref1_Var, i_ingotref1_Var), (n_ingotref3_field, i_ingotref3_field), (n_ingotref3_Parse, i_ingotref3_Parse), (n_ingotref22_Decode, i_ingotref22_Decode), (n_nums_Zag, i_nums_Zag), (n_nums_Zig, i_nums_Zig), (n_pb_last, i_pb_last), (n_pb_Uint, i_pb_Uint), (n_nums_Var, i_nums_Var), (n_pb_field, i_pb_field), (n_pb_Parse, i_pb_Parse), (n_sfoot_Decode, i_sfoot_Decode), (n_pb_PutBytes, i_pb_PutBytes), (n_nums_PutVar, i_nums_PutVar), (n_slices_Clone_Sbyte_byte, i_slices_Clone_Sbyte_byte), (n_pb_head, i_pb_head), (n_pb_PutUint, i_pb_PutUint), (n_sfoot_put, i_sfoot_put), (n_sfoot_in_1, i_sfoot_in_1), (n_slices_IndexFunc_Sint_int, i_slices_IndexFunc_Sint_int), (n_slices_ContainsFunc_Sint_int, i_slices_ContainsFunc_Sint_int), (n_sfoot_in, i_sfoot_in), (n_sfoot_Encode, i_sfoot_Encode), (n_ingotlaw22_PlaceBytes, i_ingotlaw22_PlaceBytes)]
def clips : List FuncId := [45, 127, 71, 40, 69, 67, 28, 27, 54, 60]
noncomputable def tab : List AF := [⟨87, Tryz.f87, ⟨[], [(1, [4]), (0, [0, 1])], [], [], [], []⟩⟩,
⟨52, Tryz.f52, ⟨[], [(1, [4]), (0, [2, 3])], [], [], [], []⟩⟩,
⟨24, Tryz.f24, ⟨[], [(1, [4]), (0, [2, 3])], [], [], [], []⟩⟩,
⟨86, Tryz.f86, ⟨[], [(8, [4]), (7, [4]), (6, [5, 32]), (5, [0, 5]), (4, [0, 1, 5, 16]), (3, [0, 1, 5]), (2, [0, 1, 5, 12]), (1, [0, 1, 5]), (0, [0, 1])], [], [], [], []⟩⟩,
⟨85, Tryz.f85, ⟨[11], [(1, [6]), (0, [0, 1, 2])], [], [], [(11, 0)], []⟩⟩,
⟨51, Tryz.f51, ⟨[12, 23, 27, 33, 44, 48, 54, 66, 81, 89, 99, 110, 114, 124, 135, 139, 145, 150, 164, 169], [(44, [4]), (43, [5, 8]), (42, [5, 8, 166]), (41, [3, 5, 8]), (40, [3, 5]), (39, [3, 5, 6, 7, 160]), (9, [3, 5, 6, 7]), (8, [3, 5, 6, 7, 29]), (7, [3, 5, 6, 7]), (6, [3, 5, 6, 7, 18]), (5, [3, 5, 6, 7]), (15, [3, 5, 6, 7]), (14, [3, 5, 6, 7, 50]), (13, [3, 5, 6, 7]), (12, [3, 5, 6, 7, 39]), (11, [3, 5, 6, 7]), (19, [3, 5, 6, 7]), (18, [3, 5, 6, 7, 60]), (17, [3, 5, 6, 7]), (25, [3, 5, 6, 7]), (24, [2, 3, 5, 6, 7, 91]), (23, [2, 3, 5, 6, 7]), (22, [2, 3, 5, 6, 7, 72]), (21, [2, 3, 5, 6, 7]), (29, [3, 5, 6, 7]), (28, [3, 5, 6, 7, 105]), (27, [3, 5, 6, 7]), (33, [3, 5, 6, 7]), (32, [3, 5, 6, 7, 120]), (31, [3, 5, 6, 7]), (38, [3, 5, 6, 7]), (37, [3, 5, 6, 7]), (36, [3, 5, 6, 7, 130]), (35, [3, 5, 6, 7]), (34, [3, 5, 6, 7, 125]), (30, [2, 3, 5, 6, 7, 115]), (26, [2, 3, 5, 6, 7, 100]), (20, [2, 3, 5, 6, 7, 67]), (16, [2, 3, 5, 6, 7, 55]), (10, [2, 3, 5, 6, 7, 34]), (4, [2, 3, 5, 6, 7, 13]), (3, [2, 3, 5, 6, 7]), (2, [2, 3, 5, 6]), (1, [2, 3, 5]), (0, [2, 3])], [(40, [6])], [], [(12, 0), (23, 0), (27, 0), (33, 0), (44, 0), (48, 0), (54, 0), (65, 0), (66, 0), (81, 0), (89, 0), (99, 0), (110, 0), (114, 0), (124, 0), (135, 0), (139, 0), (145, 0), (150, 0), (164, 0), (169, 0)], []⟩⟩,
⟨23, Tryz.f23, ⟨[21], [(6, [4]), (4, [1, 2, 5, 6]), (5, [1, 2, 5, 6]), (3, [1, 2, 5, 6, 10]), (2, [1, 2, 5, 6]), (1, [1, 2, 5]), (0, [1, 2])], [], [], [(20, 0), (21, 0)], []⟩⟩,
⟨49, Tryz.f49, ⟨[], [(8, [4]), (5, [2, 3, 5]), (7, [4]), (6, [2, 3, 5, 61]), (4, [2, 3, 5, 47]), (3, [2, 3, 5]), (2, [4]), (1, [2, 3, 42]), (0, [2, 3])], [], [], [], []⟩⟩,
⟨20, Tryz.f20, ⟨[], [(1, [4]), (0, [2, 3])], [], [], [], []⟩⟩,
⟨21, Tryz.f21, ⟨[], [(1, [2]), (0, [1, 2])], [], [], [], []⟩⟩,
⟨112, Tryz.f112, ⟨[], [(8, [6]), (3, [6]), (5, [6]), (7, [6]), (6, [2, 3, 4, 6, 23]), (4, [2, 3, 4, 6, 8, 15]), (2, [2, 3, 4, 6, 8, 9]), (1, [2, 3, 4, 6, 8]), (0, [2, 3, 4, 6])], [], [], [], []⟩⟩,
⟨111, Tryz.f111, ⟨[], [(7, [2]), (4, [0, 3, 4]), (6, [0, 3, 4]), (5, [0, 3, 4, 16]), (3, [0, 3, 4, 8]), (2, [0, 3, 4]), (1, [0, 3]), (0, [0])], [], [], [], []⟩⟩,
⟨110, Tryz.f110, ⟨[], [(1, [2]), (0, [0])], [], [], [], []⟩⟩,
⟨137, Tryz.f137, ⟨[], [(1, [4]), (0, [0, 1])], [], [], [], []⟩⟩,
⟨122, Tryz.f122, ⟨[], [(5, [2]), (4, [0, 3]), (3, [0, 3]), (2, [0, 3, 11]), (1, [0, 3]), (0, [0])], [], [], [], []⟩⟩,
⟨123, Tryz.f123, ⟨[], [(3, [2]), (2, [2]), (1, [0, 4]), (0, [0])], [], [], [], []⟩⟩,
⟨136, Tryz.f136, ⟨[], [(1, [2]), (0, [0])], [], [], [], []⟩⟩,
⟨109, Tryz.f109, ⟨[], [(21, [6]), (5, [6]), (7, [6]), (9, [6]), (12, [6]), (14, [6]), (16, [6]), (18, [6]), (20, [6]), (19, [1, 3, 63]), (17, [1, 2, 3, 15, 58]), (15, [1, 2, 3, 15, 51]), (13, [1, 2, 3, 15, 49]), (11, [1, 2, 3, 15, 40]), (10, [1, 2, 3, 15, 40]), (8, [1, 2, 3, 15, 32]), (6, [1, 2, 3, 15, 24]), (4, [1, 2, 3, 15, 16]), (3, [1, 2, 3, 15]), (2, [6]), (1, [1, 2, 3, 13]), (0, [1, 2, 3])], [], [], [], []⟩⟩,
⟨83, Tryz.f83, ⟨[], [(33, [4]), (27, [2, 3, 5, 6]), (32, [4]), (31, [2, 3, 5, 6, 7, 141]), (30, [2, 3, 5, 6, 7]), (29, [4]), (28, [2, 3, 5, 6, 129]), (26, [2, 3, 5, 6, 111]), (25, [2, 3, 5, 6]), (13, [4]), (12, [2, 3, 5, 90]), (18, [4]), (17, [2, 3, 5, 97]), (16, [4]), (15, [2, 3, 5, 95]), (21, [4]), (20, [2, 3, 5, 104]), (24, [4]), (23, [2, 3, 5, 108]), (22, [2, 3, 5, 105]), (19, [2, 3, 5, 86, 98]), (14, [2, 3, 5, 86, 91]), (11, [2, 3, 5, 86, 87]), (10, [2, 3, 5, 86]), (9, [2, 3, 5]), (8, [4]), (7, [2, 3, 81]), (6, [4]), (5, [2, 3, 59]), (4, [4]), (3, [4]), (2, [29]), (1, [2, 3, 9]), (0, [2, 3])], [], [], [], []⟩⟩,
⟨108, Tryz.f108, ⟨[], [(3, [4, 5]), (2, [4, 5]), (1, [0, 1, 23]), (0, [0, 1])], [], [], [], []⟩⟩,
⟨135, Tryz.f135, ⟨[], [(3, [2]), (2, [2]), (1, [0, 4]), (0, [0])], [], [], [], []⟩⟩,
⟨107, Tryz.f107, ⟨[], [(8, [4, 5]), (7, [4, 5]), (6, [0, 1, 28]), (5, [0, 1, 6, 7, 8]), (4, [0, 1, 6, 7, 8, 17]), (3, [0, 1, 6, 7, 8]), (2, [0, 1, 6, 7]), (1, [0, 1, 6]), (0, [0, 1])], [], [], [], []⟩⟩,
⟨82, Tryz.f82, ⟨[], [(37, [4, 5]), (25, [0, 1, 6, 8, 11, 12]), (36, [0, 1, 6, 8, 11, 12]), (35, [4, 5]), (34, [0, 1, 6, 8, 12, 16, 114]), (33, [0, 1, 6, 8, 12, 15, 16, 17]), (32, [0, 1, 6, 8, 12, 13, 14, 15]), (31, [0, 1, 6, 8, 12, 13, 14, 15, 100]), (30, [0, 1, 6, 8, 12, 13, 14, 15]), (29, [0, 1, 6, 8, 11, 12, 13]), (28, [0, 1, 6, 8, 11, 12, 89]), (27, [0, 1, 6, 8, 11, 12, 13, 85]), (26, [0, 1, 6, 8, 11, 12, 13]), (24, [0, 1, 6, 8, 11, 12, 79]), (23, [0, 1, 6, 8, 11, 12]), (22, [0, 1, 6, 8, 11]), (21, [4, 5]), (20, [0, 1, 6, 8, 71]), (19, [4, 5]), (18, [0, 1, 6, 8, 68]), (10, [0, 1, 6, 7, 8, 9, 10]), (13, [0, 1, 6, 7, 8, 9, 10]), (15, [4, 5]), (17, [0, 1, 6, 7, 8, 9, 10]), (11, [0, 1, 6, 7, 8, 9, 10]), (16, [0, 1, 6, 7, 8, 9, 10, 56]), (14, [0, 1, 6, 7, 8, 9, 10, 45]), (12, [0, 1, 6, 7, 8, 9, 10, 36]), (9, [0, 1, 6, 7, 8, 9, 10, 31]), (8, [0, 1, 6, 7, 8, 9, 10]), (7, [0, 1, 6, 7, 8, 9]), (6, [0, 1, 6, 7, 8]), (5, [0, 1, 6, 7]), (4, [0, 1, 6]), (3, [0, 1, 6]), (2, [0, 1, 6, 25]), (1, [0, 1, 6]), (0, [0, 1])], [], [], [], []⟩⟩,
⟨81, Tryz.f81, ⟨[38, 72], [(15, [4, 5]), (4, [0, 1, 6, 7]), (14, [0, 1, 6, 7, 8]), (13, [0, 1, 6, 7, 8, 10]), (12, [4, 5]), (11, [0, 1, 6, 7, 8, 9, 10, 11, 67]), (10, [0, 1, 6, 7, 8, 9, 10, 11]), (9, [0, 1, 6, 7, 8, 54]), (8, [0, 1, 6, 7, 8]), (7, [0, 1, 6, 7]), (6, [0, 1, 6, 7, 30]), (5, [0, 1, 6, 7, 24]), (3, [0, 1, 6, 7, 15]), (2, [0, 1, 6, 7]), (1, [0, 1, 6]), (0, [0, 1])], [], [], [], []⟩⟩,
⟨80, Tryz.f80, ⟨[], [(2, [4, 5]), (1, [6, 7]), (0, [0, 1])], [], [], [], []⟩⟩,
⟨79, Tryz.f79, ⟨[], [(3, [2, 3, 4, 5]), (2, [6, 7, 8, 9]), (1, [0, 6, 7]), (0, [0])], [], [], [], []⟩⟩,
⟨78, Tryz.f78, ⟨[], [(5, [4, 5, 6]), (4, [9, 10]), (3, [4, 5, 6]), (2, [7, 18]), (1, [7, 8]), (0, [0, 1])], [], [], [], []⟩⟩,
⟨105, Tryz.f105, ⟨[], [(1, [2]), (0, [0])], [], [], [], []⟩⟩,
⟨77, Tryz.f77, ⟨[], [(1, [2]), (0, [0])], [], [], [], []⟩⟩,
⟨76, Tryz.f76, ⟨[], [(1, [2]), (0, [0])], [], [], [], []⟩⟩,
⟨48, Tryz.f48, ⟨[], [(88, [4, 5]), (87, [4, 13]), (86, [4, 13, 362]), (85, [4, 5]), (84, [4, 6, 13, 358]), (38, [2, 4, 6, 13, 18]), (37, [2, 4, 6, 13, 15, 18, 132]), (36, [2, 4, 6, 13, 14, 15, 18]), (46, [2, 4, 6, 13, 18]), (45, [2, 4, 6, 13, 15, 18]), (44, [2, 4, 6, 13, 15, 20, 22]), (43, [2, 4, 6, 13, 15, 20, 22]), (42, [2, 4, 6, 13, 15, 20, 21, 22]), (41, [2, 4, 6, 13, 15, 19, 20, 21, 22]), (40, [2, 4, 6, 13, 15, 19, 20]), (55, [2, 4, 6, 13, 18]), (54, [2, 4, 6, 13, 18]), (53, [2, 4, 6, 13, 18, 23, 198]), (52, [4, 5]), (51, [2, 4, 6, 13, 18, 23, 194]), (50, [4, 5]), (49, [2, 4, 6, 13, 18, 23, 24, 178]), (48, [2, 4, 6, 13, 18, 23, 24]), (74, [2, 4, 6, 13, 18]), (73, [2, 4, 6, 13, 18, 31]), (72, [2, 4, 6, 13, 18, 31, 37]), (71, [2, 4, 6, 13, 18, 31, 36, 37]), (70, [2, 4, 6, 13, 18, 29, 31, 258]), (69, [2, 4, 6, 13, 18, 29, 30, 31]), (68, [2, 4, 6, 13, 18, 29, 30, 33, 35]), (67, [2, 4, 6, 13, 18, 29, 30, 33, 34, 35]), (66, [2, 4, 6, 13, 18, 29, 30, 32, 33, 34, 35]), (65, [2, 4, 6, 13, 18, 27, 29, 30, 32, 33]), (64, [2, 4, 6, 13, 18, 25, 27, 29, 30, 31, 232]), (63, [2, 4, 6, 13, 18, 25, 26, 27, 28, 29, 30, 31]), (62, [2, 4, 6, 13, 18, 25, 26, 27, 28, 29, 30]), (61, [2, 4, 6, 13, 25, 26, 27, 28, 29, 30]), (60, [2, 4, 6, 13, 25, 26, 27, 28, 29, 30]), (59, [2, 4, 6, 13, 25, 26, 27, 28, 29, 30]), (58, [2, 4, 6, 13, 15, 25, 26, 27, 28]), (57, [2, 4, 6, 13, 15, 25, 26]), (76, [2, 4, 6, 13, 18]), (83, [2, 4, 6, 13, 18]), (82, [2, 4, 6, 13, 18, 40]), (81, [2, 4, 6, 13, 18, 38, 40]), (80, [2, 4, 6, 13, 18, 38, 39, 40, 41]), (79, [2, 4, 6, 13, 15, 38, 39, 40, 41]), (78, [2, 4, 6, 13, 15, 38, 39]), (77, [2, 4, 6, 13, 15, 18, 286]), (75, [2, 4, 6, 13, 15, 18, 115, 277]), (56, [2, 4, 6, 13, 15, 18, 115, 205]), (47, [2, 4, 6, 13, 15, 18, 115, 170]), (39, [2, 4, 6, 13, 15, 18, 115, 140]), (35, [2, 4, 6, 13, 14, 15, 18, 115, 116]), (34, [2, 4, 6, 13, 14, 15, 18, 115, 116]), (33, [2, 4, 6, 13, 14, 15, 18, 115]), (32, [2, 4, 6, 13, 14, 15, 18]), (31, [4, 5]), (30, [2, 4, 6, 13, 14, 15, 113]), (29, [4, 5]), (28, [2, 4, 6, 13, 14, 15, 16, 17, 109]), (27, [2, 4, 6, 13, 14, 15, 16, 17]), (26, [4, 5]), (25, [2, 4, 6, 7, 13, 14, 99]), (12, [2, 4, 6, 7, 13, 14]), (14, [2, 4, 6, 7, 13, 14]), (16, [2, 4, 6, 7, 13, 14]), (18, [2, 4, 6, 7, 13, 14]), (20, [2, 4, 6, 7, 13, 14]), (22, [2, 4, 6, 7, 13, 14]), (24, [2, 4, 6, 7, 13, 14]), (23, [2, 4, 6, 7, 13, 14, 94]), (21, [2, 4, 6, 7, 13, 14, 90]), (19, [2, 4, 6, 7, 13, 14, 86]), (17, [2, 4, 6, 7, 13, 14, 82]), (15, [2, 4, 6, 7, 13, 14, 78]), (13, [2, 4, 6, 7, 13, 14, 74]), (11, [2, 4, 6, 7, 13, 14, 70]), (10, [2, 4, 6, 7, 13, 14]), (9, [2, 4, 6, 7, 13]), (8, [2, 4, 6, 7, 9, 11]), (7, [4, 5]), (6, [2, 4, 6, 7, 9, 58]), (5, [2, 4, 6, 7, 9]), (4, [4, 5]), (3, [2, 4, 6, 7, 8, 49]), (2, [2, 4, 6, 7, 8]), (1, [1, 2, 4, 6]), (0, [1, 2, 4])], [], [], [], []⟩⟩,
⟨47, Tryz.f47, ⟨[], [(9, [4, 5]), (5, [0, 1, 6, 7, 8]), (8, [0, 1, 6, 7, 8]), (7, [0, 1, 6, 8]), (6, [0, 1, 6, 7, 8, 29]), (4, [0, 1, 6, 7, 8, 12]), (3, [0, 1, 6, 7, 8]), (2, [0, 1, 6, 7]), (1, [0, 1, 6]), (0, [0, 1])], [], [], [], []⟩⟩,
⟨46, Tryz.f46, ⟨[35], [(7, [4]), (4, [0, 1, 5, 6]), (6, [0, 1, 5, 6]), (5, [0, 1, 5, 6, 27]), (3, [0, 1, 5, 6, 10]), (2, [0, 1, 5, 6]), (1, [0, 1, 5]), (0, [0, 1])], [], [], [], []⟩⟩,
⟨19, Tryz.f19, ⟨[66], [(21, [4, 5]), (10, [2, 8, 9, 10]), (20, [2, 8, 9, 10]), (19, [4, 5]), (18, [2, 8, 9, 10, 15, 16, 61]), (17, [2, 8, 9, 10, 15, 16]), (16, [4, 5]), (15, [2, 8, 9, 10, 13, 53]), (14, [2, 8, 9, 10, 13, 14]), (13, [4, 5]), (12, [2, 8, 9, 10, 11, 12, 45]), (11, [2, 8, 9, 10, 11, 12]), (9, [2, 8, 9, 10, 33]), (8, [2, 8, 9, 10]), (7, [2, 8, 9]), (6, [4, 5]), (5, [2, 8, 29]), (4, [2, 8]), (3, [4, 5]), (2, [2, 6, 7, 23]), (1, [2, 6, 7]), (0, [1, 2])], [], [(17, [15])], [], []⟩⟩,
⟨65, Tryz.f65, ⟨[], [(36, [2]), (33, [2]), (32, [155]), (35, [2]), (34, [163]), (31, [1, 135]), (30, [2]), (29, [1, 132]), (28, [1, 7]), (20, [1, 5]), (25, [1, 5, 6]), (27, [2]), (26, [1, 5, 6, 104]), (24, [1, 5, 6, 91]), (23, [1, 5, 6]), (22, [2]), (21, [1, 5, 88]), (19, [1, 5, 71]), (18, [1, 5]), (17, [2]), (16, [1, 66]), (9, [1, 4]), (11, [1, 4]), (13, [1, 4]), (15, [1, 4]), (14, [1, 3, 4, 46]), (12, [1, 3, 4, 30, 39]), (10, [1, 3, 4, 30, 35]), (8, [1, 3, 4, 30, 31]), (7, [1, 3, 4, 30]), (6, [1, 3, 4]), (5, [1, 3]), (4, [2]), (3, [1, 23]), (2, [2]), (1, [1, 15]), (0, [1])], [], [], [], []⟩⟩,
⟨38, Tryz.f38, ⟨[], [(14, [6, 7]), (9, [1, 2, 3, 9]), (13, [1, 2, 3, 9]), (12, [6, 7]), (11, [1, 3, 9, 10, 11, 47]), (10, [1, 3, 9, 10, 11]), (8, [1, 2, 3, 9, 31]), (7, [1, 2, 3, 9]), (6, [1, 2, 3]), (5, [6, 7]), (4, [1, 2, 3, 8, 22]), (3, [1, 2, 3, 8]), (2, [6, 7]), (1, [1, 2, 3, 17]), (0, [1, 2, 3])], [], [], [], []⟩⟩,
⟨16, Tryz.f16, ⟨[], [(2, [2]), (1, [4]), (0, [1])], [], [], [], []⟩⟩,
⟨37, Tryz.f37, ⟨[], [(15, [4]), (11, [1, 2, 5, 7]), (14, [4]), (13, [1, 2, 5, 7, 54]), (12, [1, 2, 5, 7]), (10, [1, 2, 5, 7, 40]), (9, [1, 2, 5, 7]), (6, [1, 2, 5, 6]), (8, [4]), (7, [1, 2, 5, 6, 35]), (5, [1, 2, 5, 6, 26]), (4, [1, 2, 5, 6]), (3, [1, 2, 5]), (2, [4]), (1, [1, 2, 21]), (0, [1, 2])], [], [], [], []⟩⟩,
⟨15, Tryz.f15, ⟨[], [(2, [2]), (1, [3]), (0, [1])], [], [], [], []⟩⟩,
⟨7, Tryz.f7, ⟨[106, 114], [(33, [6]), (30, [13, 17, 19]), (32, [6]), (31, [13, 17, 19, 161]), (29, [13, 17, 19, 149]), (28, [13, 17, 19]), (27, [6]), (26, [13, 17, 145]), (25, [3, 13, 14, 16, 17, 18]), (24, [3, 7, 13, 14, 16]), (21, [2, 3, 7, 13, 14, 15]), (23, [2, 3, 7, 13, 14, 15]), (22, [2, 3, 7, 13, 14, 15]), (20, [2, 3, 7, 13, 14, 15, 89]), (19, [2, 3, 7, 13, 14, 15]), (18, [2, 3, 7, 13, 14]), (17, [2, 3, 7, 13]), (14, [2, 3, 7, 8, 10, 12]), (16, [6]), (15, [2, 3, 7, 8, 10, 12, 85]), (13, [2, 3, 7, 8, 10, 12, 72]), (12, [2, 3, 7, 8, 10, 12]), (11, [6]), (10, [2, 3, 7, 8, 10, 68]), (9, [2, 3, 7, 8, 9, 10, 11]), (8, [1, 2, 3, 7, 8, 9]), (7, [6]), (6, [1, 2, 3, 7, 44]), (5, [1, 2, 3, 7]), (4, [6]), (3, [1, 2, 3, 39]), (2, [6]), (1, [1, 2, 3, 21]), (0, [1, 2, 3])], [(24, [13]), (26, [14])], [], [], []⟩⟩,
⟨104, Tryz.f104, ⟨[], [(12, [6, 7]), (11, [6, 7]), (10, [2, 3, 6, 36]), (3, [2, 3, 6]), (5, [2, 3, 6]), (9, [2, 3, 6]), (8, [6, 7]), (7, [3, 4, 6, 28]), (6, [2, 3, 4, 6, 16]), (4, [2, 3, 4, 6, 9, 12]), (2, [2, 3, 4, 6, 9, 10]), (1, [2, 3, 4, 6, 9]), (0, [2, 3, 4, 6])], [], [], [], []⟩⟩,
⟨103, Tryz.f103, ⟨[], [(14, [4]), (13, [4]), (12, [38]), (11, [6]), (10, [6]), (9, [4]), (8, [6, 29]), (7, [5, 6]), (6, [5, 6, 18]), (5, [2, 5, 6, 11, 16]), (4, [2, 5, 6, 11, 14]), (3, [2, 5, 6, 11, 12]), (2, [2, 5, 6, 11]), (1, [2, 5, 6]), (0, [2, 3])], [], [], [], []⟩⟩,
⟨134, Tryz.f134, ⟨[], [(8, [2]), (7, [3, 6, 7, 8]), (6, [3, 6, 7, 8]), (5, [3, 6, 7, 8, 14]), (4, [3, 5, 6, 7, 8]), (3, [3, 6, 7, 8, 9]), (2, [3, 6, 7, 8]), (1, [0, 3]), (0, [0])], [], [], [], []⟩⟩,
⟨102, Tryz.f102, ⟨[], [(9, [4]), (8, [4]), (7, [4]), (6, [3, 18]), (5, [3, 10]), (4, [3, 6, 10]), (3, [2, 3, 6, 7]), (2, [2, 3, 6, 7]), (1, [2, 3, 6]), (0, [2, 3])], [], [], [], []⟩⟩,
⟨133, Tryz.f133, ⟨[], [(1, [4]), (0, [0, 1])], [], [], [], []⟩⟩,
⟨132, Tryz.f132, ⟨[], [(12, [2]), (11, [3, 4]), (10, [3, 4]), (9, [3, 4, 22]), (8, [3, 4]), (7, [3, 4]), (6, [3, 4]), (5, [3, 4]), (4, [3, 4, 10]), (3, [3, 4, 7]), (2, [3, 4]), (1, [0, 3]), (0, [0])], [], [], [], []⟩⟩,
⟨131, Tryz.f131, ⟨[], [(1, [4]), (0, [0, 1])], [], [], [], []⟩⟩,
⟨101, Tryz.f101, ⟨[], [(19, [4]), (3, [4]), (5, [4]), (7, [4]), (10, [4]), (12, [4]), (14, [4]), (16, [4]), (18, [4]), (17, [2, 3, 50]), (15, [2, 3, 6, 43]), (13, [2, 3, 6, 35]), (11, [2, 3, 6, 33]), (9, [2, 3, 6, 27]), (8, [2, 3, 6, 27]), (6, [2, 3, 6, 22]), (4, [2, 3, 6, 17]), (2, [2, 3, 6, 7]), (1, [2, 3, 6]), (0, [2, 3])], [], [], [], []⟩⟩,
⟨130, Tryz.f130, ⟨[], [(7, [2]), (6, [2]), (5, [7]), (4, [3, 7]), (3, [3, 4]), (2, [3, 4]), (1, [3]), (0, [0])], [], [], [], []⟩⟩,
⟨129, Tryz.f129, ⟨[], [(7, [2]), (6, [2]), (5, [7]), (4, [3, 7]), (3, [3, 4]), (2, [3, 4]), (1, [3]), (0, [0])], [], [], [], []⟩⟩,
⟨100, Tryz.f100, ⟨[], [(3, [4]), (2, [4]), (1, [2, 3, 6]), (0, [2, 3])], [], [], [], []⟩⟩,
⟨74, Tryz.f74, ⟨[], [(20, [4]), (19, [2, 3, 41, 42, 43]), (18, [4]), (17, [2, 3, 10, 41, 42, 43, 75]), (16, [2, 3, 10, 41, 42, 43]), (15, [4]), (14, [2, 3, 7, 8, 41, 42, 43, 70]), (13, [2, 3, 6, 7, 8, 9, 41, 42, 43]), (12, [2, 3, 6, 7, 41, 42, 43]), (11, [2, 3, 41, 42, 43, 44]), (10, [2, 3, 41, 42, 43]), (9, [4]), (8, [2, 3, 5, 38]), (7, [2, 3, 5]), (2, [4]), (4, [4]), (6, [4]), (5, [2, 3, 30]), (3, [2, 3, 27]), (1, [2, 3, 11]), (0, [2, 3])], [], [(12, [7]), (13, [8])], [], []⟩⟩,
⟨75, Tryz.f75, ⟨[], [(1, [2]), (0, [1, 2])], [], [], [], []⟩⟩,
⟨99, Tryz.f99, ⟨[], [(3, [6]), (2, [7]), (1, [0, 2, 7, 8]), (0, [0, 1, 2])], [], [], [], []⟩⟩,
⟨147, Tryz.f147, ⟨[], [(4, [4, 5]), (3, [4, 5]), (2, [6, 19]), (1, [0, 1, 6]), (0, [0, 1])], [], [], [], []⟩⟩,
⟨159, Tryz.f159, ⟨[], [(3, [2]), (2, [2]), (1, [0, 4]), (0, [0])], [], [], [], []⟩⟩,
⟨146, Tryz.f146, ⟨[], [(9, [4, 5]), (6, [4, 5]), (8, [4, 5]), (7, [7, 43]), (5, [7, 8, 28]), (4, [6, 7, 8]), (3, [0, 1, 6, 7]), (2, [4, 5]), (1, [0, 1, 14]), (0, [0, 1])], [], [], [], []⟩⟩,
⟨145, Tryz.f145, ⟨[], [(1, [2]), (0, [0])], [], [], [], []⟩⟩,
⟨156, Tryz.f156, ⟨[], [(4, [4, 5, 6]), (3, [4, 5, 6]), (2, [0, 1, 7, 12]), (1, [0, 1, 7]), (0, [0, 1])], [], [], [], []⟩⟩,
⟨144, Tryz.f144, ⟨[], [(1, [4, 5, 6]), (0, [0, 1])], [], [], [], []⟩⟩,
⟨165, Tryz.f165, ⟨[], [(1, [4]), (0, [0, 1])], [], [], [], []⟩⟩,
⟨155, Tryz.f155, ⟨[], [(3, [4, 5]), (2, [4, 5]), (1, [0, 1, 9]), (0, [0, 1])], [], [], [], []⟩⟩,
⟨143, Tryz.f143, ⟨[], [(1, [4, 5]), (0, [0, 1])], [], [], [], []⟩⟩,
⟨128, Tryz.f128, ⟨[], [(21, [4, 5]), (20, [7, 11, 59, 60, 61]), (19, [7, 11, 59, 60, 61]), (18, [4, 5]), (17, [7, 17, 59, 60, 61, 87]), (16, [7, 16, 17, 18, 59, 60, 61]), (15, [7, 14, 15, 16, 59, 60, 61]), (14, [7, 11, 14, 59, 60, 61]), (13, [7, 11, 14, 59, 60, 61, 68]), (12, [7, 11, 14, 59, 60, 61]), (11, [7, 11, 13, 59, 60, 61]), (10, [7, 11, 59, 60, 61, 62]), (9, [7, 11, 59, 60, 61]), (8, [1, 7, 8, 9, 11]), (5, [4, 5]), (7, [4, 5]), (6, [1, 7, 8, 9, 45]), (4, [1, 7, 8, 9, 33]), (3, [1, 7, 8, 9, 10]), (2, [1, 6, 7]), (1, [0, 1]), (0, [0, 1])], [], [], [], []⟩⟩,
⟨98, Tryz.f98, ⟨[], [(6, [4, 5]), (5, [8]), (4, [0, 8, 9]), (3, [4, 5]), (2, [0, 6, 20]), (1, [0, 6, 7]), (0, [0, 1])], [], [], [], []⟩⟩,
⟨97, Tryz.f97, ⟨[32, 56], [(17, [4, 5]), (16, [1, 6, 13, 14, 15]), (7, [1, 6, 13, 14, 15]), (15, [1, 6, 8, 9, 13, 14, 15]), (14, [1, 6, 8, 9, 11, 13, 14, 15]), (13, [4, 5]), (12, [1, 6, 8, 9, 10, 11, 12, 13, 14, 15, 51]), (11, [1, 6, 8, 9, 10, 11, 12, 13, 14, 15]), (10, [1, 6, 8, 9, 13, 14, 15, 41]), (9, [1, 6, 8, 9, 13, 14, 15]), (8, [1, 6, 8, 13, 14, 15, 33]), (6, [1, 6, 8, 13, 14, 15, 24]), (5, [1, 6, 8, 13, 14, 15, 19]), (4, [1, 6, 8, 13, 14, 15]), (3, [1, 6, 13, 14, 15, 16]), (2, [1, 6, 13, 14, 15]), (1, [0, 1, 6]), (0, [0, 1])], [], [(4, [8])], [], []⟩⟩,
⟨95, Tryz.f95, ⟨[], [(4, [4, 5, 6]), (3, [4, 5, 7]), (2, [0, 4, 5, 7, 8]), (1, [0, 1, 4, 7]), (0, [0, 1])], [], [], [], []⟩⟩,
⟨96, Tryz.f96, ⟨[], [(1, [4, 5]), (0, [0, 1])], [], [], [], []⟩⟩,
⟨94, Tryz.f94, ⟨[], [(4, [4, 5, 6]), (3, [4, 5, 7]), (2, [0, 4, 5, 7, 8]), (1, [0, 1, 4, 7]), (0, [0, 1])], [], [], [], []⟩⟩,
⟨126, Tryz.f126, ⟨[], [(2, [4, 5]), (1, [6, 7]), (0, [0, 1])], [], [], [], []⟩⟩,
⟨93, Tryz.f93, ⟨[], [(1, [4, 5]), (0, [0, 1])], [], [], [], []⟩⟩,
⟨73, Tryz.f73, ⟨[], [(25, [4]), (24, []), (23, [0, 1]), (22, []), (21, []), (20, [0, 1]), (19, []), (18, [1, 5]), (17, [0, 1, 5, 106]), (16, [0, 1, 5]), (15, [4]), (14, [0, 1, 5, 6, 96]), (13, [0, 1, 5, 6]), (12, []), (11, [0, 1]), (10, []), (9, [0, 1]), (8, [0, 1, 25]), (7, [0, 1, 12, 23]), (6, [0, 1, 12, 21]), (5, [0, 1, 12, 19]), (4, [0, 1, 12, 17]), (3, [0, 1, 12, 15]), (2, [0, 1, 12, 13]), (1, [0, 1, 12]), (0, [0, 1])], [], [], [], []⟩⟩,
⟨44, Tryz.f44, ⟨[], [(24, [4, 5]), (23, [4, 12]), (22, [4, 12, 110]), (21, [4, 5]), (20, [4, 12, 106]), (19, [4, 5]), (18, [2, 4, 12, 16, 17, 79]), (17, [2, 4, 12, 16, 17]), (16, [4, 5]), (15, [2, 4, 7, 12, 16, 73]), (14, [2, 4, 7, 12, 16]), (13, [2, 4, 12, 14, 16]), (12, [4, 5]), (11, [2, 4, 12, 14, 59]), (10, [2, 4, 12, 13, 14, 15]), (9, [2, 4, 6, 12, 13]), (8, [2, 4, 6, 12]), (7, [4, 5]), (6, [2, 4, 6, 8, 10, 38]), (5, [2, 4, 6, 8, 10]), (4, [2, 4, 6, 8]), (3, [4, 5]), (2, [2, 4, 6, 7, 24]), (1, [2, 4, 6, 7]), (0, [1, 2, 4])], [], [], [], []⟩⟩,
⟨43, Tryz.f43, ⟨[], [(2, [4, 5]), (1, [6, 7]), (0, [0, 1])], [], [], [], []⟩⟩,
⟨42, Tryz.f42, ⟨[29], [(8, [4]), (7, [1, 5, 8, 9, 10]), (6, [1, 5, 8, 9, 10]), (5, [1, 5, 7, 8, 9, 10, 22]), (4, [1, 5, 7, 8, 9, 10]), (3, [1, 5, 8, 9, 10, 11]), (2, [1, 5, 8, 9, 10]), (1, [0, 1, 5]), (0, [0, 1])], [], [(4, [7])], [], []⟩⟩,
⟨18, Tryz.f18, ⟨[63], [(22, [4, 5]), (21, [2, 9, 30, 31, 32]), (20, [2, 9, 30, 31, 32]), (19, [4, 5]), (18, [2, 9, 13, 16, 30, 31, 32, 58]), (17, [2, 9, 13, 16, 30, 31, 32]), (16, [4, 5]), (15, [2, 9, 14, 30, 31, 32, 50]), (14, [2, 9, 14, 15, 30, 31, 32]), (13, [4, 5]), (12, [2, 9, 12, 13, 30, 31, 32, 42]), (11, [2, 9, 12, 13, 30, 31, 32]), (10, [2, 9, 11, 30, 31, 32]), (9, [2, 9, 30, 31, 32, 33]), (8, [2, 9, 30, 31, 32]), (7, [2, 8, 9]), (6, [4, 5]), (5, [2, 8, 29]), (4, [2, 8]), (3, [4, 5]), (2, [2, 6, 7, 23]), (1, [2, 6, 7]), (0, [1, 2])], [], [(17, [16])], [], []⟩⟩,
⟨120, Tryz.f120, ⟨[], [(0, [])], [], [], [], []⟩⟩,
⟨119, Tryz.f119, ⟨[], [(1, []), (0, [0, 1, 2, 6])], [], [], [], []⟩⟩,
⟨118, Tryz.f118, ⟨[], [(2, []), (1, [0, 1]), (0, [0, 1, 4])], [], [], [], []⟩⟩,
⟨140, Tryz.f140, ⟨[], [(3, [2]), (2, [2]), (1, [0, 4]), (0, [0])], [], [], [], []⟩⟩,
⟨117, Tryz.f117, ⟨[], [(12, [4]), (11, [8]), (10, [8, 42]), (9, [0, 8]), (8, [0, 5, 7, 8, 34]), (7, [0, 1, 5, 7, 8]), (6, [0, 1, 5, 7]), (5, [0, 1, 5]), (4, [0, 1, 5, 6, 21]), (3, [0, 1, 5, 6]), (2, [0, 1, 5]), (1, [0, 1]), (0, [0, 1])], [], [], [], []⟩⟩,
⟨116, Tryz.f116, ⟨[], [(0, [])], [], [], [], []⟩⟩,
⟨115, Tryz.f115, ⟨[], [(0, [])], [], [], [], []⟩⟩,
⟨114, Tryz.f114, ⟨[], [(1, [6]), (0, [0, 1, 2])], [], [], [], []⟩⟩,
⟨113, Tryz.f113, ⟨[], [(0, [])], [], [], [], []⟩⟩,
⟨84, Tryz.f84, ⟨[], [(29, [4]), (10, [5]), (9, [5, 6, 10]), (15, [5]), (14, [5, 6, 10]), (13, [3, 5, 6, 7, 10]), (12, [3, 5, 6, 7, 10, 30]), (17, [5]), (20, [5]), (19, [5, 8, 10]), (22, [5]), (26, [5]), (25, [3, 5]), (24, [3, 5, 6, 9, 65]), (28, [5]), (27, [5, 6, 9, 80]), (23, [3, 5, 6, 9, 18, 62]), (21, [3, 5, 6, 9, 10, 18, 57]), (18, [3, 5, 6, 8, 9, 10, 18, 49]), (16, [3, 5, 6, 7, 8, 9, 10, 18, 44]), (11, [3, 5, 6, 7, 8, 9, 10, 18, 27]), (8, [3, 5, 6, 7, 8, 9, 10, 18, 19]), (7, [3, 5, 6, 7, 8, 9, 10, 18]), (6, [2, 3, 5, 6, 7, 8, 9, 10]), (5, [2, 3, 5, 6, 7, 8, 9]), (4, [2, 3, 5, 6, 7, 8]), (3, [2, 3, 5, 6, 7]), (2, [2, 3, 5, 6]), (1, [2, 3, 5]), (0, [2, 3])], [], [], [], []⟩⟩,
⟨72, Tryz.f72, ⟨[], [(21, [2]), (20, [2]), (19, [2]), (18, [2]), (17, [2]), (16, [2]), (15, [2]), (14, [2]), (13, [22]), (12, [3, 20]), (11, [3, 18]), (10, [3, 16]), (9, [3, 14]), (8, [3, 10]), (7, [3, 10]), (6, [3, 10]), (5, [3, 7]), (4, [3, 7]), (3, [3, 4]), (2, [3, 4]), (1, [3]), (0, [0])], [], [], [], []⟩⟩,
⟨50, Tryz.f50, ⟨[], [(8, [4]), (7, [5, 7]), (6, [5, 7, 32]), (5, [3, 5, 7]), (4, [3, 5]), (3, [2, 3, 5, 6, 24]), (2, [2, 3, 5, 6]), (1, [2, 3, 5]), (0, [2, 3])], [], [], [], []⟩⟩,
⟨22, Tryz.f22, ⟨[], [(7, [4]), (6, [2, 5, 8, 9, 10]), (5, [2, 5, 8, 9, 10]), (4, [2, 5, 7, 8, 9, 10]), (3, [2, 5, 8, 9, 10, 11]), (2, [2, 5, 8, 9, 10]), (1, [1, 2, 5]), (0, [1, 2])], [], [(4, [7])], [], []⟩⟩,
⟨68, Tryz.f68, ⟨[5], [(3, [2]), (2, [2]), (1, [0, 4]), (0, [0])], [], [], [], []⟩⟩,
⟨41, Tryz.f41, ⟨[32, 44, 50], [(11, [8]), (10, [0]), (9, [0, 3, 9, 10, 34, 35, 36]), (8, [0, 3, 9, 10, 34, 35, 36]), (7, [0, 3, 9, 10, 12, 34, 35, 36]), (6, [0, 3, 9, 10, 12, 34, 35, 36]), (5, [0, 3, 9, 10, 34, 35, 36, 37]), (4, [0, 3, 9, 10, 34, 35, 36]), (3, [0, 3, 5, 9, 10]), (2, [0, 3, 5, 9]), (1, [0, 2, 3, 5, 9]), (0, [0, 2, 3, 5])], [(10, [10])], [(6, [12])], [(50, 0)], []⟩⟩,
⟨92, Tryz.f92, ⟨[], [(24, [2]), (23, [2]), (22, [1, 73]), (21, [2]), (20, [1, 6, 72]), (19, [1, 3, 4, 5, 6]), (18, [2]), (17, [1, 3, 4, 5, 6, 48]), (16, [1, 3, 4, 5, 6]), (15, [2]), (14, [1, 3, 4, 5, 6, 40]), (13, [1, 3, 4, 5, 6]), (12, [1, 3, 4, 5, 6]), (11, [1, 3, 4, 5, 6]), (10, [1, 3, 4, 5, 6]), (9, [1, 3, 4, 5, 6, 20]), (8, [1, 3, 4, 5, 6, 8, 17]), (7, [1, 3, 4, 5, 6, 8, 17]), (6, [1, 3, 4, 5, 6, 8, 15]), (5, [1, 3, 4, 5, 6, 8, 13]), (4, [1, 3, 4, 5, 6, 8, 11]), (3, [1, 3, 4, 5, 6, 8, 9]), (2, [1, 3, 4, 5, 6, 8]), (1, [1, 3, 4, 5, 6]), (0, [1])], [], [], [], []⟩⟩,
⟨66, Tryz.f66, ⟨[], [(15, [6]), (14, [1, 2, 48, 49, 50]), (13, [6]), (12, [1, 2, 9, 48, 49, 50, 60]), (11, [1, 2, 9, 48, 49, 50]), (10, [1, 2, 8, 48, 49, 50]), (9, [1, 2, 48, 49, 50, 51]), (8, [1, 2, 48, 49, 50]), (7, [1, 2, 3]), (2, [6]), (4, [6]), (6, [6]), (5, [1, 2, 3, 28]), (3, [1, 2, 3, 19]), (1, [1, 2, 3, 10]), (0, [1, 2, 3])], [], [(10, [8])], [], []⟩⟩,
⟨39, Tryz.f39, ⟨[], [(2, [2]), (1, [1, 3]), (0, [1])], [], [], [], []⟩⟩,
⟨17, Tryz.f17, ⟨[], [(3, [2]), (2, [2]), (1, [1, 5]), (0, [1])], [], [], [(7, 0)], []⟩⟩,
⟨8, Tryz.f8, ⟨[], [(7, [0]), (6, [2, 3, 4, 6, 7]), (5, [0]), (4, [2, 3, 4, 5, 26]), (3, [2, 3, 4, 5]), (2, [2, 3, 4]), (1, [1, 2]), (0, [])], [], [], [], []⟩⟩]
set_option maxRecDepth 100000 in
theorem k_ingotref1_Zig : cFunc Tryz.prog a_ingotref1_Zig Tryz.f121 = some i_ingotref1_Zig := by kernel_rfl
set_option maxRecDepth 100000 in
theorem k_ingotref1_Zag : cFunc Tryz.prog a_ingotref1_Zag Tryz.f106 = some i_ingotref1_Zag := by kernel_rfl
set_option maxRecDepth 100000 in
theorem k_ingotlaw22_PlaceBounds : cFunc Tryz.prog a_ingotlaw22_PlaceBounds Tryz.f6 = some i_ingotlaw22_PlaceBounds := by kernel_rfl
set_option maxRecDepth 100000 in
theorem k_ingotlaw22_PlaceOrder : cFunc Tryz.prog a_ingotlaw22_PlaceOrder Tryz.f5 = some i_ingotlaw22_PlaceOrder := by kernel_rfl
set_option maxRecDepth 100000 in
theorem k_ingotref3_PutBytes : cFunc Tryz.prog a_ingotref3_PutBytes Tryz.f35 = some i_ingotref3_PutBytes := by kernel_rfl
set_option maxRecDepth 100000 in
theorem k_ingotref1_PutVar : cFunc Tryz.prog a_ingotref1_PutVar Tryz.f64 = some i_ingotref1_PutVar := by kernel_rfl
set_option maxRecDepth 100000 in
theorem k_ingotref3_may : cFunc Tryz.prog a_ingotref3_may Tryz.f63 = some i_ingotref3_may := by kernel_rfl
set_option maxRecDepth 100000 in
theorem k_ingotref3_PutUint : cFunc Tryz.prog a_ingotref3_PutUint Tryz.f36 = some i_ingotref3_PutUint := by kernel_rfl
set_option maxRecDepth 100000 in
theorem k_ingotref22_in : cFunc Tryz.prog a_ingotref22_in Tryz.f34 = some i_ingotref22_in := by kernel_rfl
set_option maxRecDepth 100000 in
theorem k_ingotref22_Encode : cFunc Tryz.prog a_ingotref22_Encode Tryz.f14 = some i_ingotref22_Encode := by kernel_rfl
set_option maxRecDepth 100000 in
theorem k_ingotlaw22_PlaceBack : cFunc Tryz.prog a_ingotlaw22_PlaceBack Tryz.f4 = some i_ingotlaw22_PlaceBack := by kernel_rfl
set_option maxRecDepth 100000 in
theorem k_ingotlaw22_same : cFunc Tryz.prog a_ingotlaw22_same Tryz.f11 = some i_ingotlaw22_same := by kernel_rfl
set_option maxRecDepth 100000 in
theorem k_ingotlaw22_Of : cFunc Tryz.prog a_ingotlaw22_Of Tryz.f12 = some i_ingotlaw22_Of := by kernel_rfl
set_option maxRecDepth 100000 in
theorem k_ingotref3_Uint : cFunc Tryz.prog a_ingotref3_Uint Tryz.f30 = some i_ingotref3_Uint := by kernel_rfl
set_option maxRecDepth 100000 in
theorem k_ingotref1_Var : cFunc Tryz.prog a_ingotref1_Var Tryz.f90 = some i_ingotref1_Var := by kernel_rfl
set_option maxRecDepth 100000 in
theorem k_ingotref3_field : cFunc Tryz.prog a_ingotref3_field Tryz.f56 = some i_ingotref3_field := by kernel_rfl
set_option maxRecDepth 100000 in
theorem k_ingotref3_Parse : cFunc Tryz.prog a_ingotref3_Parse Tryz.f29 = some i_ingotref3_Parse := by kernel_rfl
set_option maxRecDepth 100000 in
theorem k_ingotref22_Decode : cFunc Tryz.prog a_ingotref22_Decode Tryz.f10 = some i_ingotref22_Decode := by kernel_rfl
set_option maxRecDepth 100000 in
theorem k_nums_Zag : cFunc Tryz.prog a_nums_Zag Tryz.f142 = some i_nums_Zag := by kernel_rfl
set_option maxRecDepth 100000 in
theorem k_nums_Zig : cFunc Tryz.prog a_nums_Zig Tryz.f138 = some i_nums_Zig := by kernel_rfl
set_option maxRecDepth 100000 in
theorem k_pb_last : cFunc Tryz.prog a_pb_last Tryz.f55 = some i_pb_last := by kernel_rfl
set_option maxRecDepth 100000 in
theorem k_pb_Uint : cFunc Tryz.prog a_pb_Uint Tryz.f26 = some i_pb_Uint := by kernel_rfl
set_option maxRecDepth 100000 in
theorem k_nums_Var : cFunc Tryz.prog a_nums_Var Tryz.f88 = some i_nums_Var := by kernel_rfl
set_option maxRecDepth 100000 in
theorem k_pb_field : cFunc Tryz.prog a_pb_field Tryz.f53 = some i_pb_field := by kernel_rfl
set_option maxRecDepth 100000 in
theorem k_pb_Parse : cFunc Tryz.prog a_pb_Parse Tryz.f25 = some i_pb_Parse := by kernel_rfl
set_option maxRecDepth 100000 in
theorem k_sfoot_Decode : cFunc Tryz.prog a_sfoot_Decode Tryz.f9 = some i_sfoot_Decode := by kernel_rfl
set_option maxRecDepth 100000 in
theorem k_pb_PutBytes : cFunc Tryz.prog a_pb_PutBytes Tryz.f32 = some i_pb_PutBytes := by kernel_rfl
set_option maxRecDepth 100000 in
theorem k_nums_PutVar : cFunc Tryz.prog a_nums_PutVar Tryz.f61 = some i_nums_PutVar := by kernel_rfl
set_option maxRecDepth 100000 in
theorem k_slices_Clone_Sbyte_byte : cFunc Tryz.prog a_slices_Clone_Sbyte_byte Tryz.f70 = some i_slices_Clone_Sbyte_byte := by kernel_rfl
set_option maxRecDepth 100000 in
theorem k_pb_head : cFunc Tryz.prog a_pb_head Tryz.f59 = some i_pb_head := by kernel_rfl
set_option maxRecDepth 100000 in
theorem k_pb_PutUint : cFunc Tryz.prog a_pb_PutUint Tryz.f62 = some i_pb_PutUint := by kernel_rfl
set_option maxRecDepth 100000 in
theorem k_sfoot_put : cFunc Tryz.prog a_sfoot_put Tryz.f33 = some i_sfoot_put := by kernel_rfl
set_option maxRecDepth 100000 in
theorem k_sfoot_in_1 : cFunc Tryz.prog a_sfoot_in_1 Tryz.f58 = some i_sfoot_in_1 := by kernel_rfl
set_option maxRecDepth 100000 in
theorem k_slices_IndexFunc_Sint_int : cFunc Tryz.prog a_slices_IndexFunc_Sint_int Tryz.f91 = some i_slices_IndexFunc_Sint_int := by kernel_rfl
set_option maxRecDepth 100000 in
theorem k_slices_ContainsFunc_Sint_int : cFunc Tryz.prog a_slices_ContainsFunc_Sint_int Tryz.f57 = some i_slices_ContainsFunc_Sint_int := by kernel_rfl
set_option maxRecDepth 100000 in
theorem k_sfoot_in : cFunc Tryz.prog a_sfoot_in Tryz.f31 = some i_sfoot_in := by kernel_rfl
set_option maxRecDepth 100000 in
theorem k_sfoot_Encode : cFunc Tryz.prog a_sfoot_Encode Tryz.f13 = some i_sfoot_Encode := by kernel_rfl
set_option maxRecDepth 100000 in
theorem k_ingotlaw22_PlaceBytes : cFunc Tryz.prog a_ingotlaw22_PlaceBytes Tryz.f3 = some i_ingotlaw22_PlaceBytes := by kernel_rfl
theorem tbl_ok : Entries Tryz.prog tbl :=
  .cons (.of Tryz.func121 (by kernel_rfl) k_ingotref1_Zig) <|
  .cons (.of Tryz.func106 (by kernel_rfl) k_ingotref1_Zag) <|
  .cons (.of Tryz.func6 (by kernel_rfl) k_ingotlaw22_PlaceBounds) <|
  .cons (.of Tryz.func5 (by kernel_rfl) k_ingotlaw22_PlaceOrder) <|
  .cons (.of Tryz.func35 (by kernel_rfl) k_ingotref3_PutBytes) <|
  .cons (.of Tryz.func64 (by kernel_rfl) k_ingotref1_PutVar) <|
  .cons (.of Tryz.func63 (by kernel_rfl) k_ingotref3_may) <|
  .cons (.of Tryz.func36 (by kernel_rfl) k_ingotref3_PutUint) <|
  .cons (.of Tryz.func34 (by kernel_rfl) k_ingotref22_in) <|
  .cons (.of Tryz.func14 (by kernel_rfl) k_ingotref22_Encode) <|
  .cons (.of Tryz.func4 (by kernel_rfl) k_ingotlaw22_PlaceBack) <|
  .cons (.of Tryz.func11 (by kernel_rfl) k_ingotlaw22_same) <|
  .cons (.of Tryz.func12 (by kernel_rfl) k_ingotlaw22_Of) <|
  .cons (.of Tryz.func30 (by kernel_rfl) k_ingotref3_Uint) <|
  .cons (.of Tryz.func90 (by kernel_rfl) k_ingotref1_Var) <|
  .cons (.of Tryz.func56 (by kernel_rfl) k_ingotref3_field) <|
  .cons (.of Tryz.func29 (by kernel_rfl) k_ingotref3_Parse) <|
  .cons (.of Tryz.func10 (by kernel_rfl) k_ingotref22_Decode) <|
  .cons (.of Tryz.func142 (by kernel_rfl) k_nums_Zag) <|
  .cons (.of Tryz.func138 (by kernel_rfl) k_nums_Zig) <|
  .cons (.of Tryz.func55 (by kernel_rfl) k_pb_last) <|
  .cons (.of Tryz.func26 (by kernel_rfl) k_pb_Uint) <|
  .cons (.of Tryz.func88 (by kernel_rfl) k_nums_Var) <|
  .cons (.of Tryz.func53 (by kernel_rfl) k_pb_field) <|
  .cons (.of Tryz.func25 (by kernel_rfl) k_pb_Parse) <|
  .cons (.of Tryz.func9 (by kernel_rfl) k_sfoot_Decode) <|
  .cons (.of Tryz.func32 (by kernel_rfl) k_pb_PutBytes) <|
  .cons (.of Tryz.func61 (by kernel_rfl) k_nums_PutVar) <|
  .cons (.of Tryz.func70 (by kernel_rfl) k_slices_Clone_Sbyte_byte) <|
  .cons (.of Tryz.func59 (by kernel_rfl) k_pb_head) <|
  .cons (.of Tryz.func62 (by kernel_rfl) k_pb_PutUint) <|
  .cons (.of Tryz.func33 (by kernel_rfl) k_sfoot_put) <|
  .cons (.of Tryz.func58 (by kernel_rfl) k_sfoot_in_1) <|
  .cons (.of Tryz.func91 (by kernel_rfl) k_slices_IndexFunc_Sint_int) <|
  .cons (.of Tryz.func57 (by kernel_rfl) k_slices_ContainsFunc_Sint_int) <|
  .cons (.of Tryz.func31 (by kernel_rfl) k_sfoot_in) <|
  .cons (.of Tryz.func13 (by kernel_rfl) k_sfoot_Encode) <|
  .cons (.of Tryz.func3 (by kernel_rfl) k_ingotlaw22_PlaceBytes) <|
  .nil
theorem tab_ok : ATab Tryz.prog tab :=
  .cons Tryz.func87 (by kernel_rfl) <|
  .cons Tryz.func52 (by kernel_rfl) <|
  .cons Tryz.func24 (by kernel_rfl) <|
  .cons Tryz.func86 (by kernel_rfl) <|
  .cons Tryz.func85 (by kernel_rfl) <|
  .cons Tryz.func51 (by kernel_rfl) <|
  .cons Tryz.func23 (by kernel_rfl) <|
  .cons Tryz.func49 (by kernel_rfl) <|
  .cons Tryz.func20 (by kernel_rfl) <|
  .cons Tryz.func21 (by kernel_rfl) <|
  .cons Tryz.func112 (by kernel_rfl) <|
  .cons Tryz.func111 (by kernel_rfl) <|
  .cons Tryz.func110 (by kernel_rfl) <|
  .cons Tryz.func137 (by kernel_rfl) <|
  .cons Tryz.func122 (by kernel_rfl) <|
  .cons Tryz.func123 (by kernel_rfl) <|
  .cons Tryz.func136 (by kernel_rfl) <|
  .cons Tryz.func109 (by kernel_rfl) <|
  .cons Tryz.func83 (by kernel_rfl) <|
  .cons Tryz.func108 (by kernel_rfl) <|
  .cons Tryz.func135 (by kernel_rfl) <|
  .cons Tryz.func107 (by kernel_rfl) <|
  .cons Tryz.func82 (by kernel_rfl) <|
  .cons Tryz.func81 (by kernel_rfl) <|
  .cons Tryz.func80 (by kernel_rfl) <|
  .cons Tryz.func79 (by kernel_rfl) <|
  .cons Tryz.func78 (by kernel_rfl) <|
  .cons Tryz.func105 (by kernel_rfl) <|
  .cons Tryz.func77 (by kernel_rfl) <|
  .cons Tryz.func76 (by kernel_rfl) <|
  .cons Tryz.func48 (by kernel_rfl) <|
  .cons Tryz.func47 (by kernel_rfl) <|
  .cons Tryz.func46 (by kernel_rfl) <|
  .cons Tryz.func19 (by kernel_rfl) <|
  .cons Tryz.func65 (by kernel_rfl) <|
  .cons Tryz.func38 (by kernel_rfl) <|
  .cons Tryz.func16 (by kernel_rfl) <|
  .cons Tryz.func37 (by kernel_rfl) <|
  .cons Tryz.func15 (by kernel_rfl) <|
  .cons Tryz.func7 (by kernel_rfl) <|
  .cons Tryz.func104 (by kernel_rfl) <|
  .cons Tryz.func103 (by kernel_rfl) <|
  .cons Tryz.func134 (by kernel_rfl) <|
  .cons Tryz.func102 (by kernel_rfl) <|
  .cons Tryz.func133 (by kernel_rfl) <|
  .cons Tryz.func132 (by kernel_rfl) <|
  .cons Tryz.func131 (by kernel_rfl) <|
  .cons Tryz.func101 (by kernel_rfl) <|
  .cons Tryz.func130 (by kernel_rfl) <|
  .cons Tryz.func129 (by kernel_rfl) <|
  .cons Tryz.func100 (by kernel_rfl) <|
  .cons Tryz.func74 (by kernel_rfl) <|
  .cons Tryz.func75 (by kernel_rfl) <|
  .cons Tryz.func99 (by kernel_rfl) <|
  .cons Tryz.func147 (by kernel_rfl) <|
  .cons Tryz.func159 (by kernel_rfl) <|
  .cons Tryz.func146 (by kernel_rfl) <|
  .cons Tryz.func145 (by kernel_rfl) <|
  .cons Tryz.func156 (by kernel_rfl) <|
  .cons Tryz.func144 (by kernel_rfl) <|
  .cons Tryz.func165 (by kernel_rfl) <|
  .cons Tryz.func155 (by kernel_rfl) <|
  .cons Tryz.func143 (by kernel_rfl) <|
  .cons Tryz.func128 (by kernel_rfl) <|
  .cons Tryz.func98 (by kernel_rfl) <|
  .cons Tryz.func97 (by kernel_rfl) <|
  .cons Tryz.func95 (by kernel_rfl) <|
  .cons Tryz.func96 (by kernel_rfl) <|
  .cons Tryz.func94 (by kernel_rfl) <|
  .cons Tryz.func126 (by kernel_rfl) <|
  .cons Tryz.func93 (by kernel_rfl) <|
  .cons Tryz.func73 (by kernel_rfl) <|
  .cons Tryz.func44 (by kernel_rfl) <|
  .cons Tryz.func43 (by kernel_rfl) <|
  .cons Tryz.func42 (by kernel_rfl) <|
  .cons Tryz.func18 (by kernel_rfl) <|
  .cons Tryz.func120 (by kernel_rfl) <|
  .cons Tryz.func119 (by kernel_rfl) <|
  .cons Tryz.func118 (by kernel_rfl) <|
  .cons Tryz.func140 (by kernel_rfl) <|
  .cons Tryz.func117 (by kernel_rfl) <|
  .cons Tryz.func116 (by kernel_rfl) <|
  .cons Tryz.func115 (by kernel_rfl) <|
  .cons Tryz.func114 (by kernel_rfl) <|
  .cons Tryz.func113 (by kernel_rfl) <|
  .cons Tryz.func84 (by kernel_rfl) <|
  .cons Tryz.func72 (by kernel_rfl) <|
  .cons Tryz.func50 (by kernel_rfl) <|
  .cons Tryz.func22 (by kernel_rfl) <|
  .cons Tryz.func68 (by kernel_rfl) <|
  .cons Tryz.func41 (by kernel_rfl) <|
  .cons Tryz.func92 (by kernel_rfl) <|
  .cons Tryz.func66 (by kernel_rfl) <|
  .cons Tryz.func39 (by kernel_rfl) <|
  .cons Tryz.func17 (by kernel_rfl) <|
  .cons Tryz.func8 (by kernel_rfl) <|
  .nil

/-! what is known besides -/
def exts : FuncId → Option (List D → Option V) := fun f => if f = n_types_names then some (xNames) else if f = n_slices_Backward_Spb_Field_pb_Field then some (xSeq n_slices_Backward_Spb_Field_pb_Field_1) else none
def iters : FuncId → Option (List D → Option (List (List D))) := fun f => if f = n_slices_Backward_Spb_Field_pb_Field_1 then some (iBackA 5) else none
noncomputable def cfg : Cfg := { funcs := fnsOf Tryz.prog tbl tab, meth := fun _ _ => none, glob := fun _ => none, gobj := fun _ => none, intTy := fun _ => false, clip := fun f => clips.contains f, ext := exts, iter := iters }

noncomputable abbrev X_ingotref1_Zig : Kx := fx cfg 0 [.t 2]
theorem e_ingotref1_Zig : Oe cfg n_ingotref1_Zig 1 [.t 2] c_ingotref1_Zig := fun _ _ _ => evL_go (fn := i_ingotref1_Zig) rfl rfl _ _ _
theorem o_ingotref1_Zig (x0 : D) : Of X_ingotref1_Zig n_ingotref1_Zig [.d x0] c_ingotref1_Zig := e_ingotref1_Zig 0 _ _ rfl rfl
noncomputable abbrev X_ingotref1_Zag : Kx := fx cfg 0 [.t 2]
theorem e_ingotref1_Zag : Oe cfg n_ingotref1_Zag 1 [.t 2] c_ingotref1_Zag := fun _ _ _ => evL_go (fn := i_ingotref1_Zag) rfl rfl _ _ _
theorem o_ingotref1_Zag (x0 : D) : Of X_ingotref1_Zag n_ingotref1_Zag [.d x0] c_ingotref1_Zag := e_ingotref1_Zag 0 _ _ rfl rfl
noncomputable abbrev X_ingotlaw22_PlaceBounds : Kx := fx cfg 0 [.t 6]
theorem e_ingotlaw22_PlaceBounds : Oe cfg n_ingotlaw22_PlaceBounds 3 [.t 6] c_ingotlaw22_PlaceBounds := fun _ _ _ => evL_go (fn := i_ingotlaw22_PlaceBounds) rfl rfl _ _ _
theorem o_ingotlaw22_PlaceBounds (x0 x1 x2 : D) : Of X_ingotlaw22_PlaceBounds n_ingotlaw22_PlaceBounds [.d x0, .d x1, .d x2] c_ingotlaw22_PlaceBounds := e_ingotlaw22_PlaceBounds 0 _ _ rfl rfl
noncomputable abbrev X_ingotlaw22_PlaceOrder : Kx := fx cfg 0 [.t 4]
theorem e_ingotlaw22_PlaceOrder : Oe cfg n_ingotlaw22_PlaceOrder 2 [.t 4] c_ingotlaw22_PlaceOrder := fun _ _ _ => evL_go (fn := i_ingotlaw22_PlaceOrder) rfl rfl _ _ _
theorem o_ingotlaw22_PlaceOrder (x0 x1 : D) : Of X_ingotlaw22_PlaceOrder n_ingotlaw22_PlaceOrder [.d x0, .d x1] c_ingotlaw22_PlaceOrder := e_ingotlaw22_PlaceOrder 0 _ _ rfl rfl
noncomputable abbrev X_ingotref3_PutBytes : Kx := fx cfg 0 [.t 6]
theorem e_ingotref3_PutBytes : Oe cfg n_ingotref3_PutBytes 3 [.t 6] c_ingotref3_PutBytes := fun _ _ _ => evL_go (fn := i_ingotref3_PutBytes) rfl rfl _ _ _
theorem o_ingotref3_PutBytes (x0 x1 x2 : D) : Of X_ingotref3_PutBytes n_ingotref3_PutBytes [.d x0, .d x1, .d x2] c_ingotref3_PutBytes := e_ingotref3_PutBytes 0 _ _ rfl rfl
noncomputable abbrev X_ingotref1_PutVar : Kx := fx cfg 0 [.t 4]
theorem e_ingotref1_PutVar : Oe cfg n_ingotref1_PutVar 2 [.t 4] c_ingotref1_PutVar := fun _ _ _ => evL_go (fn := i_ingotref1_PutVar) rfl rfl _ _ _
theorem o_ingotref1_PutVar (x0 x1 : D) : Of X_ingotref1_PutVar n_ingotref1_PutVar [.d x0, .d x1] c_ingotref1_PutVar := e_ingotref1_PutVar 0 _ _ rfl rfl
noncomputable abbrev X_ingotref3_may : Kx := fx cfg 0 [.t 2]
theorem e_ingotref3_may : Oe cfg n_ingotref3_may 1 [.t 2] c_ingotref3_may := fun _ _ _ => evL_go (fn := i_ingotref3_may) rfl rfl _ _ _
theorem o_ingotref3_may (x0 : D) : Of X_ingotref3_may n_ingotref3_may [.d x0] c_ingotref3_may := e_ingotref3_may 0 _ _ rfl rfl
noncomputable abbrev X_ingotref3_PutUint : Kx := fx cfg 0 [.t 6]
theorem e_ingotref3_PutUint : Oe cfg n_ingotref3_PutUint 3 [.t 6] c_ingotref3_PutUint := fun _ _ _ => evL_go (fn := i_ingotref3_PutUint) rfl rfl _ _ _
theorem o_ingotref3_PutUint (x0 x1 x2 : D) : Of X_ingotref3_PutUint n_ingotref3_PutUint [.d x0, .d x1, .d x2] c_ingotref3_PutUint := e_ingotref3_PutUint 0 _ _ rfl rfl
noncomputable abbrev X_ingotref22_in : Kx := fx cfg 0 [.t 2]
theorem e_ingotref22_in : Oe cfg n_ingotref22_in 1 [.t 2] c_ingotref22_in := fun _ _ _ => evL_go (fn := i_ingotref22_in) rfl rfl _ _ _
theorem o_ingotref22_in (x0 : D) : Of X_ingotref22_in n_ingotref22_in [.d x0] c_ingotref22_in := e_ingotref22_in 0 _ _ rfl rfl
noncomputable abbrev X_ingotref22_Encode : Kx := fx cfg 0 [.t 2, .t 3]
theorem e_ingotref22_Encode : Oe cfg n_ingotref22_Encode 1 [.t 2, .t 3] c_ingotref22_Encode := fun _ _ _ => evL_go (fn := i_ingotref22_Encode) rfl rfl _ _ _
theorem o_ingotref22_Encode (x0 : D) : Of X_ingotref22_Encode n_ingotref22_Encode [.d x0] c_ingotref22_Encode := e_ingotref22_Encode 0 _ _ rfl rfl
noncomputable abbrev X_ingotlaw22_PlaceBack : Kx := fx cfg 0 [.t 2]
theorem e_ingotlaw22_PlaceBack : Oe cfg n_ingotlaw22_PlaceBack 1 [.t 2] c_ingotlaw22_PlaceBack := fun _ _ _ => evL_go (fn := i_ingotlaw22_PlaceBack) rfl rfl _ _ _
theorem o_ingotlaw22_PlaceBack (x0 : D) : Of X_ingotlaw22_PlaceBack n_ingotlaw22_PlaceBack [.d x0] c_ingotlaw22_PlaceBack := e_ingotlaw22_PlaceBack 0 _ _ rfl rfl
noncomputable abbrev X_ingotlaw22_same : Kx := fx cfg 0 [.t 4]
theorem e_ingotlaw22_same : Oe cfg n_ingotlaw22_same 2 [.t 4] c_ingotlaw22_same := fun _ _ _ => evL_go (fn := i_ingotlaw22_same) rfl rfl _ _ _
theorem o_ingotlaw22_same (x0 x1 : D) : Of X_ingotlaw22_same n_ingotlaw22_same [.d x0, .d x1] c_ingotlaw22_same := e_ingotlaw22_same 0 _ _ rfl rfl
noncomputable abbrev X_ingotlaw22_Of : Kx := fx cfg 0 [.cell 2 (some 2)]
theorem e_ingotlaw22_Of : Oe cfg n_ingotlaw22_Of 1 [.cell 2 (some 2)] c_ingotlaw22_Of := fun _ _ _ => evL_go (fn := i_ingotlaw22_Of) rfl rfl _ _ _
theorem o_ingotlaw22_Of (x0 : D) : Of X_ingotlaw22_Of n_ingotlaw22_Of [.d x0] c_ingotlaw22_Of := e_ingotlaw22_Of 0 _ _ rfl rfl
noncomputable abbrev X_ingotref3_Uint : Kx := fx cfg 0 [.t 4, .t 5]
theorem e_ingotref3_Uint : Oe cfg n_ingotref3_Uint 2 [.t 4, .t 5] c_ingotref3_Uint := fun _ _ _ => evL_go (fn := i_ingotref3_Uint) rfl rfl _ _ _
theorem o_ingotref3_Uint (x0 x1 : D) : Of X_ingotref3_Uint n_ingotref3_Uint [.d x0, .d x1] c_ingotref3_Uint := e_ingotref3_Uint 0 _ _ rfl rfl
noncomputable abbrev X_ingotref1_Var : Kx := fx cfg 0 [.t 4, .t 5, .t 6]
theorem e_ingotref1_Var : Oe cfg n_ingotref1_Var 2 [.t 4, .t 5, .t 6] c_ingotref1_Var := fun _ _ _ => evL_go (fn := i_ingotref1_Var) rfl rfl _ _ _
theorem o_ingotref1_Var (x0 x1 : D) : Of X_ingotref1_Var n_ingotref1_Var [.d x0, .d x1] c_ingotref1_Var := e_ingotref1_Var 0 _ _ rfl rfl
noncomputable abbrev X_ingotref3_field : Kx := fx cfg 0 [.cell 4 (some 5), .t 5, .t 6]
theorem e_ingotref3_field : Oe cfg n_ingotref3_field 2 [.cell 4 (some 5), .t 5, .t 6] c_ingotref3_field := fun _ _ _ => evL_go (fn := i_ingotref3_field) rfl rfl _ _ _
theorem o_ingotref3_field (x0 x1 : D) : Of X_ingotref3_field n_ingotref3_field [.d x0, .d x1] c_ingotref3_field := e_ingotref3_field 0 _ _ rfl rfl
noncomputable abbrev X_ingotref3_Parse : Kx := fx cfg 0 [.t 2, .t 3]
theorem e_ingotref3_Parse : Oe cfg n_ingotref3_Parse 1 [.t 2, .t 3] c_ingotref3_Parse := fun _ _ _ => evL_go (fn := i_ingotref3_Parse) rfl rfl _ _ _
theorem o_ingotref3_Parse (x0 : D) : Of X_ingotref3_Parse n_ingotref3_Parse [.d x0] c_ingotref3_Parse := e_ingotref3_Parse 0 _ _ rfl rfl
noncomputable abbrev X_ingotref22_Decode : Kx := fx cfg 0 [.cell 2 (some 2), .t 3]
theorem e_ingotref22_Decode : Oe cfg n_ingotref22_Decode 1 [.cell 2 (some 2), .t 3] c_ingotref22_Decode := fun _ _ _ => evL_go (fn := i_ingotref22_Decode) rfl rfl _ _ _
theorem o_ingotref22_Decode (x0 : D) : Of X_ingotref22_Decode n_ingotref22_Decode [.d x0] c_ingotref22_Decode := e_ingotref22_Decode 0 _ _ rfl rfl
noncomputable abbrev X_nums_Zag : Kx := fx cfg 0 [.t 2]
theorem e_nums_Zag : Oe cfg n_nums_Zag 1 [.t 2] c_nums_Zag := fun _ _ _ => evL_go (fn := i_nums_Zag) rfl rfl _ _ _
theorem o_nums_Zag (x0 : D) : Of X_nums_Zag n_nums_Zag [.d x0] c_nums_Zag := e_nums_Zag 0 _ _ rfl rfl
noncomputable abbrev X_nums_Zig : Kx := fx cfg 0 [.t 2]
theorem e_nums_Zig : Oe cfg n_nums_Zig 1 [.t 2] c_nums_Zig := fun _ _ _ => evL_go (fn := i_nums_Zig) rfl rfl _ _ _
theorem o_nums_Zig (x0 : D) : Of X_nums_Zig n_nums_Zig [.d x0] c_nums_Zig := e_nums_Zig 0 _ _ rfl rfl
noncomputable abbrev X_pb_last : Kx := fx cfg 0 [.cell 6 (some 5), .cell 7 none]
theorem e_pb_last : Oe cfg n_pb_last 3 [.cell 6 (some 5), .cell 7 none] c_pb_last := fun _ _ _ => evL_go (fn := i_pb_last) rfl rfl _ _ _
theorem o_pb_last (x0 x1 x2 : D) : Of X_pb_last n_pb_last [.d x0, .d x1, .d x2] c_pb_last := e_pb_last 0 _ _ rfl rfl
noncomputable abbrev X_pb_Uint : Kx := fx cfg 0 [.t 4, .t 5]
theorem e_pb_Uint : Oe cfg n_pb_Uint 2 [.t 4, .t 5] c_pb_Uint := fun _ _ _ => evL_go (fn := i_pb_Uint) rfl rfl _ _ _
theorem o_pb_Uint (x0 x1 : D) : Of X_pb_Uint n_pb_Uint [.d x0, .d x1] c_pb_Uint := e_pb_Uint 0 _ _ rfl rfl
noncomputable abbrev X_nums_Var : Kx := fx cfg 0 [.t 4, .t 5, .t 6]
theorem e_nums_Var : Oe cfg n_nums_Var 2 [.t 4, .t 5, .t 6] c_nums_Var := fun _ _ _ => evL_go (fn := i_nums_Var) rfl rfl _ _ _
theorem o_nums_Var (x0 x1 : D) : Of X_nums_Var n_nums_Var [.d x0, .d x1] c_nums_Var := e_nums_Var 0 _ _ rfl rfl
noncomputable abbrev X_pb_field : Kx := fx cfg 0 [.cell 4 (some 5), .t 5, .t 6]
theorem e_pb_field : Oe cfg n_pb_field 2 [.cell 4 (some 5), .t 5, .t 6] c_pb_field := fun _ _ _ => evL_go (fn := i_pb_field) rfl rfl _ _ _
theorem o_pb_field (x0 x1 : D) : Of X_pb_field n_pb_field [.d x0, .d x1] c_pb_field := e_pb_field 0 _ _ rfl rfl
noncomputable abbrev X_pb_Parse : Kx := fx cfg 0 [.t 2, .t 3]
theorem e_pb_Parse : Oe cfg n_pb_Parse 1 [.t 2, .t 3] c_pb_Parse := fun _ _ _ => evL_go (fn := i_pb_Parse) rfl rfl _ _ _
theorem o_pb_Parse (x0 : D) : Of X_pb_Parse n_pb_Parse [.d x0] c_pb_Parse := e_pb_Parse 0 _ _ rfl rfl
noncomputable abbrev X_sfoot_Decode : Kx := fx cfg 0 [.cell 2 (some 2), .t 3]
theorem e_sfoot_Decode : Oe cfg n_sfoot_Decode 1 [.cell 2 (some 2), .t 3] c_sfoot_Decode := fun _ _ _ => evL_go (fn := i_sfoot_Decode) rfl rfl _ _ _
theorem o_sfoot_Decode (x0 : D) : Of X_sfoot_Decode n_sfoot_Decode [.d x0] c_sfoot_Decode := e_sfoot_Decode 0 _ _ rfl rfl
noncomputable abbrev X_pb_PutBytes : Kx := fx cfg 0 [.t 6]
theorem e_pb_PutBytes : Oe cfg n_pb_PutBytes 3 [.t 6] c_pb_PutBytes := fun _ _ _ => evL_go (fn := i_pb_PutBytes) rfl rfl _ _ _
theorem o_pb_PutBytes (x0 x1 x2 : D) : Of X_pb_PutBytes n_pb_PutBytes [.d x0, .d x1, .d x2] c_pb_PutBytes := e_pb_PutBytes 0 _ _ rfl rfl
noncomputable abbrev X_nums_PutVar : Kx := fx cfg 0 [.t 4]
theorem e_nums_PutVar : Oe cfg n_nums_PutVar 2 [.t 4] c_nums_PutVar := fun _ _ _ => evL_go (fn := i_nums_PutVar) rfl rfl _ _ _
theorem o_nums_PutVar (x0 x1 : D) : Of X_nums_PutVar n_nums_PutVar [.d x0, .d x1] c_nums_PutVar := e_nums_PutVar 0 _ _ rfl rfl
noncomputable abbrev X_slices_Clone_Sbyte_byte : Kx := fx cfg 0 [.t 2]
theorem e_slices_Clone_Sbyte_byte : Oe cfg n_slices_Clone_Sbyte_byte 1 [.t 2] c_slices_Clone_Sbyte_byte := fun _ _ _ => evL_go (fn := i_slices_Clone_Sbyte_byte) rfl rfl _ _ _
theorem o_slices_Clone_Sbyte_byte (x0 : D) : Of X_slices_Clone_Sbyte_byte n_slices_Clone_Sbyte_byte [.d x0] c_slices_Clone_Sbyte_byte := e_slices_Clone_Sbyte_byte 0 _ _ rfl rfl
noncomputable abbrev X_pb_head : Kx := fx cfg 0 [.t 6, .t 7]
theorem e_pb_head : Oe cfg n_pb_head 3 [.t 6, .t 7] c_pb_head := fun _ _ _ => evL_go (fn := i_pb_head) rfl rfl _ _ _
theorem o_pb_head (x0 x1 x2 : D) : Of X_pb_head n_pb_head [.d x0, .d x1, .d x2] c_pb_head := e_pb_head 0 _ _ rfl rfl
noncomputable abbrev X_pb_PutUint : Kx := fx cfg 0 [.t 6]
theorem e_pb_PutUint : Oe cfg n_pb_PutUint 3 [.t 6] c_pb_PutUint := fun _ _ _ => evL_go (fn := i_pb_PutUint) rfl rfl _ _ _
theorem o_pb_PutUint (x0 x1 x2 : D) : Of X_pb_PutUint n_pb_PutUint [.d x0, .d x1, .d x2] c_pb_PutUint := e_pb_PutUint 0 _ _ rfl rfl
noncomputable abbrev X_sfoot_put : Kx := fx cfg 0 [.t 2]
theorem e_sfoot_put : Oe cfg n_sfoot_put 1 [.t 2] c_sfoot_put := fun _ _ _ => evL_go (fn := i_sfoot_put) rfl rfl _ _ _
theorem o_sfoot_put (x0 : D) : Of X_sfoot_put n_sfoot_put [.d x0] c_sfoot_put := e_sfoot_put 0 _ _ rfl rfl
noncomputable abbrev X_sfoot_in_1 : Kx := fx cfg 0 [.t 2]
theorem e_sfoot_in_1 : Oe cfg n_sfoot_in_1 1 [.t 2] c_sfoot_in_1 := fun _ _ _ => evL_go (fn := i_sfoot_in_1) rfl rfl _ _ _
theorem o_sfoot_in_1 (x0 : D) : Of X_sfoot_in_1 n_sfoot_in_1 [.d x0] c_sfoot_in_1 := e_sfoot_in_1 0 _ _ rfl rfl
noncomputable abbrev X_slices_IndexFunc_Sint_int : Kx := fx cfg 0 [.t 4]
theorem e_slices_IndexFunc_Sint_int : Oe cfg n_slices_IndexFunc_Sint_int 2 [.t 4] c_slices_IndexFunc_Sint_int := fun _ _ _ => evL_go (fn := i_slices_IndexFunc_Sint_int) rfl rfl _ _ _
theorem o_slices_IndexFunc_Sint_int (x0 x1 : D) : Of X_slices_IndexFunc_Sint_int n_slices_IndexFunc_Sint_int [.d x0, .d x1] c_slices_IndexFunc_Sint_int := e_slices_IndexFunc_Sint_int 0 _ _ rfl rfl
noncomputable abbrev X_slices_ContainsFunc_Sint_int : Kx := fx cfg 0 [.t 4]
theorem e_slices_ContainsFunc_Sint_int : Oe cfg n_slices_ContainsFunc_Sint_int 2 [.t 4] c_slices_ContainsFunc_Sint_int := fun _ _ _ => evL_go (fn := i_slices_ContainsFunc_Sint_int) rfl rfl _ _ _
theorem o_slices_ContainsFunc_Sint_int (x0 x1 : D) : Of X_slices_ContainsFunc_Sint_int n_slices_ContainsFunc_Sint_int [.d x0, .d x1] c_slices_ContainsFunc_Sint_int := e_slices_ContainsFunc_Sint_int 0 _ _ rfl rfl
noncomputable abbrev X_sfoot_in : Kx := fx cfg 0 [.t 2]
theorem e_sfoot_in : Oe cfg n_sfoot_in 1 [.t 2] c_sfoot_in := fun _ _ _ => evL_go (fn := i_sfoot_in) rfl rfl _ _ _
theorem o_sfoot_in (x0 : D) : Of X_sfoot_in n_sfoot_in [.d x0] c_sfoot_in := e_sfoot_in 0 _ _ rfl rfl
noncomputable abbrev X_sfoot_Encode : Kx := fx cfg 0 [.t 2, .t 3]
theorem e_sfoot_Encode : Oe cfg n_sfoot_Encode 1 [.t 2, .t 3] c_sfoot_Encode := fun _ _ _ => evL_go (fn := i_sfoot_Encode) rfl rfl _ _ _
theorem o_sfoot_Encode (x0 : D) : Of X_sfoot_Encode n_sfoot_Encode [.d x0] c_sfoot_Encode := e_sfoot_Encode 0 _ _ rfl rfl
noncomputable abbrev X_ingotlaw22_PlaceBytes : Kx := fx cfg 0 [.t 2]
theorem e_ingotlaw22_PlaceBytes : Oe cfg n_ingotlaw22_PlaceBytes 1 [.t 2] c_ingotlaw22_PlaceBytes := fun _ _ _ => evL_go (fn := i_ingotlaw22_PlaceBytes) rfl rfl _ _ _
theorem o_ingotlaw22_PlaceBytes (x0 : D) : Of X_ingotlaw22_PlaceBytes n_ingotlaw22_PlaceBytes [.d x0] c_ingotlaw22_PlaceBytes := e_ingotlaw22_PlaceBytes 0 _ _ rfl rfl
@[go_sem] theorem u_ingotlaw22_Of : Uc cfg n_ingotlaw22_Of := uc rfl
@[go_sem] theorem u_ingotlaw22_PlaceBack : Uc cfg n_ingotlaw22_PlaceBack := uc rfl
@[go_sem] theorem u_ingotlaw22_PlaceBounds : Uc cfg n_ingotlaw22_PlaceBounds := uc rfl
@[go_sem] theorem u_ingotlaw22_PlaceBytes : Uc cfg n_ingotlaw22_PlaceBytes := uc rfl
@[go_sem] theorem u_ingotlaw22_PlaceOrder : Uc cfg n_ingotlaw22_PlaceOrder := uc rfl
@[go_sem] theorem u_ingotlaw22_known : Uc cfg n_ingotlaw22_known := uc rfl
@[go_sem] theorem u_ingotlaw22_same : Uc cfg n_ingotlaw22_same := uc rfl
@[go_sem] theorem u_ingotref1_PutVar : Uc cfg n_ingotref1_PutVar := uc rfl
@[go_sem] theorem u_ingotref1_Var : Uc cfg n_ingotref1_Var := uc rfl
@[go_sem] theorem u_ingotref1_Zag : Uc cfg n_ingotref1_Zag := uc rfl
@[go_sem] theorem u_ingotref1_Zig : Uc cfg n_ingotref1_Zig := uc rfl
@[go_sem] theorem u_ingotref22_Decode : Uc cfg n_ingotref22_Decode := uc rfl
@[go_sem] theorem u_ingotref22_Encode : Uc cfg n_ingotref22_Encode := uc rfl
@[go_sem] theorem u_ingotref22_in : Uc cfg n_ingotref22_in := uc rfl
@[go_sem] theorem u_ingotref3_Parse : Uc cfg n_ingotref3_Parse := uc rfl
@[go_sem] theorem u_ingotref3_PutBytes : Uc cfg n_ingotref3_PutBytes := uc rfl
@[go_sem] theorem u_ingotref3_PutUint : Uc cfg n_ingotref3_PutUint := uc rfl
@[go_sem] theorem u_ingotref3_Uint : Uc cfg n_ingotref3_Uint := uc rfl
@[go_sem] theorem u_ingotref3_field : Uc cfg n_ingotref3_field := uc rfl
@[go_sem] theorem u_ingotref3_may : Uc cfg n_ingotref3_may := uc rfl
@[go_sem] theorem u_nums_PutVar : Uc cfg n_nums_PutVar := uc rfl
@[go_sem] theorem u_nums_Var : Uc cfg n_nums_Var := uc rfl
@[go_sem] theorem u_nums_Zag : Uc cfg n_nums_Zag := uc rfl
@[go_sem] theorem u_nums_Zig : Uc cfg n_nums_Zig := uc rfl
@[go_sem] theorem u_pb_Parse : Uc cfg n_pb_Parse := uc rfl
@[go_sem] theorem u_pb_PutBytes : Uc cfg n_pb_PutBytes := uc rfl
@[go_sem] theorem u_pb_PutUint : Uc cfg n_pb_PutUint := uc rfl
@[go_sem] theorem u_pb_Uint : Uc cfg n_pb_Uint := uc rfl
@[go_sem] theorem u_pb_field : Uc cfg n_pb_field := uc rfl
@[go_sem] theorem u_pb_head : Uc cfg n_pb_head := uc rfl
@[go_sem] theorem u_pb_last : Uc cfg n_pb_last := uc rfl
@[go_sem] theorem u_sfoot_Decode : Uc cfg n_sfoot_Decode := uc rfl
@[go_sem] theorem u_sfoot_Encode : Uc cfg n_sfoot_Encode := uc rfl
@[go_sem] theorem u_sfoot_in : Uc cfg n_sfoot_in := uc rfl
@[go_sem] theorem u_sfoot_in_1 : Uc cfg n_sfoot_in_1 := uc rfl
@[go_sem] theorem u_sfoot_put : Uc cfg n_sfoot_put := uc rfl
@[go_sem] theorem u_slices_Backward_Spb_Field_pb_Field : Uc cfg n_slices_Backward_Spb_Field_pb_Field := uc rfl
@[go_sem] theorem u_slices_Clip_Sbyte_byte : Uk cfg n_slices_Clip_Sbyte_byte := uk rfl
@[go_sem] theorem u_slices_Clip_Scolw_Encoding_colw_Encoding : Uk cfg n_slices_Clip_Scolw_Encoding_colw_Encoding := uk rfl
@[go_sem] theorem u_slices_Clip_Spb_Field_pb_Field : Uk cfg n_slices_Clip_Spb_Field_pb_Field := uk rfl
@[go_sem] theorem u_slices_Clip_Ssfoot_Place_sfoot_Place : Uk cfg n_slices_Clip_Ssfoot_Place_sfoot_Place := uk rfl
@[go_sem] theorem u_slices_Clone_Sbyte_byte : Uc cfg n_slices_Clone_Sbyte_byte := uc rfl
@[go_sem] theorem u_slices_ContainsFunc_Sint_int : Uc cfg n_slices_ContainsFunc_Sint_int := uc rfl
@[go_sem] theorem u_slices_IndexFunc_Sint_int : Uc cfg n_slices_IndexFunc_Sint_int := uc rfl
@[go_sem] theorem u_types_names : Uc cfg n_types_names := uc rfl

end Go.Proofs.YtpflgebgmhnipaaGreatDoor
