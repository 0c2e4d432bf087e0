/- The evaluator's code of functions that the rows reach, printed by program and checked against the program; of the others what their code is reckoned by. -/
import Derived.Test.YtnabebdceaoiiaaGreatDoorL9
import Derived.Test.YtnabebdceaoiiaaGreatDoorChecked
namespace Go.Proofs.YtnabebdceaoiiaaGreatDoor
open Go.Ev Go
variable {X : Kx} {K : List Kf} {s : St}

def n_ac : FuncId := 4
def n_bw : FuncId := 10
def n_bi : FuncId := 11
def n_bo : FuncId := 12
def n_ab : FuncId := 13
def n_aj : FuncId := 17
def n_ay : FuncId := 18
def n_b3 : FuncId := 19
def n_bg : FuncId := 20
def n_bf : FuncId := 21
def n_ai : FuncId := 22
def n_av : FuncId := 23
def n_bh : FuncId := 30
def n_a7 : FuncId := 31
def n_bb : FuncId := 32
def n_ae : FuncId := 33
def n_bj : FuncId := 34
def n_bm : FuncId := 35
def n_ao : FuncId := 36
def n_aw : FuncId := 37
def n_b4 : FuncId := 47
def n_al : FuncId := 49
def n_bp : FuncId := 50
def n_br : FuncId := 51
def n_am : FuncId := 52
def n_bx : FuncId := 53
def n_ax : FuncId := 54
def n_bq : FuncId := 55
def n_bz : FuncId := 62
def n_b6 : FuncId := 63
def n_ag : FuncId := 64
def n_af : FuncId := 65
def n_ak : FuncId := 66
def n_a8 : FuncId := 67
def n_bl : FuncId := 68
def n_ap : FuncId := 72
def n_bu : FuncId := 73
def n_aq : FuncId := 74
def n_b0 : FuncId := 75
def n_aa : FuncId := 88
def n_au : FuncId := 89
def n_az : FuncId := 90
def n_ah : FuncId := 91
def n_b5 : FuncId := 106
/-! ingot/ingotref14.Same -/
@[go_sem] def ae4 : Ops := [
oo 2 (.box 5 (.t 0)), oo 3 (.box 5 (.t 1)), oo 4 (.asg (.c (.bool false)))]
def r_aj_0 := rg ae4 [2, 3]
@[go_sem] theorem r_aj_0_u : Gr X K s r_aj_0 ae4 [2, 3] := go_region _ _
@[go_sem] def ae3 : Ops := [
oo 6 (.fieldA 0 (.t 2)), oo 7 (.load none (.t 6)), oo 8 (.fieldA 0 (.t 3)), oo 9 (.load none (.t 8)), oo 10 (.eqn true .bool (.t 7) (.t 9)), oo 11 (.mv (.t 10)), og 12 11 false (.fieldA 1 (.t 2)), og 13 11 false (.load none (.t 12)), og 14 11 false (.fieldA 1 (.t 3)), og 15 11 false (.load none (.t 14)), og 16 11 false (.bin .neq (.t 13) (.t 15)), oo 17 (.pick (.t 11) (.c (.bool true)) (.t 16)), oo 18 (.mv (.t 17)), og 19 18 false (.fieldA 2 (.t 2)), og 20 18 false (.load none (.t 19)), og 21 18 false (.fieldA 2 (.t 3)), og 22 18 false (.load none (.t 21)), og 23 18 false (.bin .neq (.t 20) (.t 22)), oo 24 (.pick (.t 18) (.c (.bool true)) (.t 23)), oo 25 (.mv (.t 24)), og 26 25 false (.fieldA 3 (.t 2)), og 27 25 false (.load none (.t 26)), og 28 25 false (.b2s (.t 27)), og 29 25 false (.fieldA 3 (.t 3)), og 30 25 false (.load none (.t 29)), og 31 25 false (.b2s (.t 30)), og 32 25 false (.bin .neq (.t 28) (.t 31)), oo 33 (.pick (.t 25) (.c (.bool true)) (.t 32)), oo 34 (.mv (.t 33)), og 35 34 false (.fieldA 4 (.t 2)), og 36 34 false (.load none (.t 35)), og 37 34 false (.len false (.t 36)), og 38 34 false (.fieldA 4 (.t 3)), og 39 34 false (.load none (.t 38)), og 40 34 false (.len false (.t 39)), og 41 34 false (.bin .neq (.t 37) (.t 40)), oo 42 (.pick (.t 34) (.c (.bool true)) (.t 41))]
def r_aj_1 := rg ae3 [2, 3, 42]
@[go_sem] theorem r_aj_1_u : Gr X K s r_aj_1 ae3 [2, 3, 42] := go_region _ _
@[go_sem] def ae2 : Ops := [
oo 4 (.asg (.c (.bool false)))]
def r_aj_2 := rg ae2 [4]
@[go_sem] theorem r_aj_2_u : Gr X K s r_aj_2 ae2 [4] := go_region _ _
@[go_sem] def ae1 : Ops := [
oo 5 (.asg (ci 0))]
def r_aj_3 := rg ae1 [2, 3, 5]
@[go_sem] theorem r_aj_3_u : Gr X K s r_aj_3 ae1 [2, 3, 5] := go_region _ _
@[go_sem] def ae0 : Ops := [
oo 43 (.mv (.t 5)), oo 44 (.fieldA 4 (.t 2)), oo 45 (.load none (.t 44)), oo 46 (.len false (.t 45)), oo 47 (.bin .lss (.t 43) (.t 46))]
def aly := rg ae0 [2, 3, 5, 47]
@[go_sem] theorem r_aj_4_u : Gr X K s aly ae0 [2, 3, 5, 47] := go_region _ _
@[go_sem] def aey : Ops := [
oo 50 (.fieldA 4 (.t 2)), oo 51 (.load none (.t 50)), oo 52 (.mv (.t 5)), oo 53 (.idxA 5 (.t 51) (.t 52)), oo 54 (.load (some 5) (.t 53)), oo 55 (.fieldA 4 (.t 3)), oo 56 (.load none (.t 55)), oo 57 (.mv (.t 5)), oo 58 (.idxA 5 (.t 56) (.t 57)), oo 59 (.load (some 5) (.t 58)), oo 60 (.call false n_aj [(.t 54), (.t 59)]), oo 61 (.un .not (.t 60))]
def aez : List (Nat × Nat) := [(0, 2), (1, 2), (0, 5), (1, 5), (2, 5), (3, 5), (4, 5), (0, 6), (1, 6), (2, 6), (3, 6), (4, 6), (0, 7), (1, 7), (2, 7), (3, 7), (4, 7), (5, 7), (6, 7), (0, 8), (1, 8), (2, 8), (3, 8), (4, 8), (0, 9), (1, 9), (2, 9), (3, 9), (4, 9)]
def alx : ICode := .region aey aez [2, 3, 5, 61]
@[go_sem] theorem r_aj_5_u : go X (.c alx :: K) s = goRU X [] aez aey [2, 3, 5, 61] K s := go_regionU' _ _ _ _
@[go_sem] def aex : Ops := [
oo 4 (.asg (.c (.bool false)))]
def alw := rg aex [4]
@[go_sem] theorem r_aj_6_u : Gr X K s alw aex [4] := go_region _ _
@[go_sem] def aew : Ops := [
oo 48 (.mv (.t 5)), oo 49 (.bin .add (.t 48) (ci 1)), oo 5 (.asg (.t 49))]
def alv := rg aew [2, 3, 5]
@[go_sem] theorem r_aj_7_u : Gr X K s alv aew [2, 3, 5] := go_region _ _
def apy : ICode := (.seq (.seq aly (.cond (.t 47) .skip (.exit 0))) (.seq (.block 1 (.seq alx (.cond (.t 61) (.seq alw .ret) .skip))) alv))
@[go_sem] theorem b_aj_8_u : Gn X K s apy (.seq (.seq aly (.cond (.t 47) .skip (.exit 0))) (.seq (.block 1 (.seq alx (.cond (.t 61) (.seq alw .ret) .skip))) alv)) := rfl
@[go_sem] def aev : Ops := [
oo 4 (.asg (.c (.bool true)))]
def alu := rg aev [4]
@[go_sem] theorem r_aj_9_u : Gr X K s alu aev [4] := go_region _ _
def c_aj : ICode := (.seq r_aj_0 (.seq r_aj_1 (.cond (.t 42) (.seq r_aj_2 .ret) (.seq (.seq r_aj_3 (.block 0 (.loop apy))) (.seq alu .ret)))))
def i_aj : IFunc := ⟨2, [.t 4], c_aj⟩
def a_aj : Advice := ⟨[], [(8, [4]), (5, [2, 3, 5]), (7, [4]), (6, [2, 3, 5, 61]), (4, [2, 3, 5, 47]), (3, [2, 3, 5]), (2, [4]), (1, [2, 3, 42]), (0, [2, 3])], [], [], [], []⟩
/-! ingot/ingotref14.Project -/
@[go_sem] def aff : Ops := [
oo 7 (.box 5 (.t 3)), oo 8 (.alloc [(.bool false), (.int .i64 0), (.int .i64 0), .nilS, .nilS])]
def r_ai_0 := rg aff [0, 1, 2, 7, 8]
@[go_sem] theorem r_ai_0_u : Gr X K s r_ai_0 aff [0, 1, 2, 7, 8] := go_region _ _
@[go_sem] def afe : Ops := [
oo 12 (.fieldA 0 (.t 7)), oo 13 (.load none (.t 12)), oo 14 (.mv (.t 13)), og 15 14 false (.mv (.t 0)), og 16 14 false (.mv (.t 2)), og 17 14 false (.idxA 9 (.t 15) (.t 16)), og 18 14 false (.fieldA 0 (.t 17)), og 19 14 false (.fieldA 0 (.t 18)), og 20 14 false (.load none (.t 19)), og 21 14 false (.bin .neq (.t 20) (ci 12)), oo 22 (.pick (.t 14) (.c (.bool true)) (.t 21))]
def r_ai_1 := rg afe [0, 1, 2, 7, 8, 22]
@[go_sem] theorem r_ai_1_u : Gr X K s r_ai_1 afe [0, 1, 2, 7, 8, 22] := go_region _ _
@[go_sem] def afd : Ops := [
oo 23 (.load (some 5) (.t 7)), ow (.store 5 (.t 8) (.t 23))]
def r_ai_2 := rg afd [8]
@[go_sem] theorem r_ai_2_u : Gr X K s r_ai_2 afd [8] := go_region _ _
@[go_sem] def afc : Ops := [
oo 24 (.build [(.bool false), (.int .i64 0), (.int .i64 0), .nilS, .nilS] []), oo 9 (.alloc [(.bool false), (.int .i64 0), (.int .i64 0), .nilS, .nilS]), ow (.store 5 (.t 9) (.t 24))]
def r_ai_3 := rg afc [0, 1, 2, 7, 8, 9]
@[go_sem] theorem r_ai_3_u : Gr X K s r_ai_3 afc [0, 1, 2, 7, 8, 9] := go_region _ _
@[go_sem] def afb : Ops := [
oo 10 (.asg (ci 0))]
def r_ai_4 := rg afb [0, 1, 2, 7, 8, 9, 10]
@[go_sem] theorem r_ai_4_u : Gr X K s r_ai_4 afb [0, 1, 2, 7, 8, 9, 10] := go_region _ _
@[go_sem] def afa : Ops := [
oo 25 (.mv (.t 10)), oo 26 (.mv (.t 0)), oo 27 (.mv (.t 2)), oo 28 (.idxA 9 (.t 26) (.t 27)), oo 29 (.fieldA 6 (.t 28)), oo 30 (.load none (.t 29)), oo 31 (.len false (.t 30)), oo 32 (.bin .lss (.t 25) (.t 31)), oo 33 (.mv (.t 32)), og 34 33 true (.mv (.t 10)), og 35 33 true (.fieldA 4 (.t 7)), og 36 33 true (.load none (.t 35)), og 37 33 true (.len false (.t 36)), og 38 33 true (.bin .lss (.t 34) (.t 37)), oo 39 (.pick (.t 33) (.t 38) (.c (.bool false)))]
def al3 := rg afa [0, 1, 2, 7, 8, 9, 10, 39]
@[go_sem] theorem r_ai_5_u : Gr X K s al3 afa [0, 1, 2, 7, 8, 9, 10, 39] := go_region _ _
@[go_sem] def ae9 : Ops := [
oo 42 (.mv (.t 0)), oo 43 (.mv (.t 2)), oo 44 (.idxA 9 (.t 42) (.t 43)), oo 45 (.fieldA 6 (.t 44)), oo 46 (.load none (.t 45)), oo 47 (.mv (.t 10)), oo 48 (.idxA 1 (.t 46) (.t 47)), oo 49 (.load none (.t 48)), oo 11 (.asg (.t 49))]
def al2 := rg ae9 [0, 1, 2, 7, 8, 9, 10, 11]
@[go_sem] theorem r_ai_6_u : Gr X K s al2 ae9 [0, 1, 2, 7, 8, 9, 10, 11] := go_region _ _
@[go_sem] def ae8 : Ops := [
oo 50 (.mv (.t 11)), oo 51 (.mv (.t 1)), oo 52 (.len false (.t 51)), oo 53 (.bin .lss (.t 50) (.t 52)), oo 54 (.mv (.t 53)), og 55 54 true (.mv (.t 1)), og 56 54 true (.mv (.t 11)), og 57 54 true (.idxA 1 (.t 55) (.t 56)), og 58 54 true (.load none (.t 57)), oo 59 (.pick (.t 54) (.t 58) (.c (.bool false)))]
def al1 := rg ae8 [0, 1, 2, 7, 8, 9, 10, 11, 59]
@[go_sem] theorem r_ai_7_u : Gr X K s al1 ae8 [0, 1, 2, 7, 8, 9, 10, 11, 59] := go_region _ _
@[go_sem] def ae6 : Ops := [
oo 60 (.fieldA 4 (.t 9)), oo 61 (.load none (.t 60)), oo 62 (.mv (.t 0)), oo 63 (.mv (.t 1)), oo 64 (.mv (.t 11)), oo 65 (.fieldA 4 (.t 7)), oo 66 (.load none (.t 65)), oo 67 (.mv (.t 10)), oo 68 (.idxA 5 (.t 66) (.t 67)), oo 69 (.load (some 5) (.t 68)), oo 70 (.call false n_ai [(.t 62), (.t 63), (.t 64), (.t 69)]), oo 71 (.lit false 5 1 (.agg [(.bool false), (.int .i64 0), (.int .i64 0), (.sl []), (.sl [])]) [(0, (.t 70))]), oo 72 (.append 5 72 (.t 61) (.t 71)), oo 73 (.fieldA 4 (.t 9)), ow (.store 1 (.t 73) (.t 72))]
def ae7 : List (Nat × Nat) := [(0, 2), (1, 2), (0, 3), (1, 3), (2, 3), (0, 4), (1, 4), (2, 4), (3, 4), (0, 5), (1, 5), (2, 5), (3, 5), (4, 5), (0, 6), (1, 6), (2, 6), (3, 6), (4, 6), (0, 7), (1, 7), (2, 7), (3, 7), (4, 7), (5, 7), (6, 7), (0, 8), (1, 8), (2, 8), (3, 8), (4, 8), (0, 9), (1, 9), (2, 9), (3, 9), (4, 9), (0, 10), (1, 10), (0, 11), (1, 11)]
def al0 : ICode := .region ae6 ae7 [0, 1, 2, 7, 8, 9, 10]
@[go_sem] theorem r_ai_8_u : go X (.c al0 :: K) s = goRU X [] ae7 ae6 [0, 1, 2, 7, 8, 9, 10] K s := go_regionU' _ _ _ _
@[go_sem] def ae5 : Ops := [
oo 40 (.mv (.t 10)), oo 41 (.bin .add (.t 40) (ci 1)), oo 10 (.asg (.t 41))]
def alz := rg ae5 [0, 1, 2, 7, 8, 9, 10]
@[go_sem] theorem r_ai_9_u : Gr X K s alz ae5 [0, 1, 2, 7, 8, 9, 10] := go_region _ _
def apz : ICode := (.seq (.seq al3 (.cond (.t 39) .skip (.exit 0))) (.seq (.block 1 (.seq al2 (.seq al1 (.cond (.t 59) al0 .skip)))) alz))
@[go_sem] theorem b_ai_10_u : Gn X K s apz (.seq (.seq al3 (.cond (.t 39) .skip (.exit 0))) (.seq (.block 1 (.seq al2 (.seq al1 (.cond (.t 59) al0 .skip)))) alz)) := rfl
@[go_sem] def rf : Ops := [
oo 74 (.load (some 5) (.t 9)), ow (.store 5 (.t 8) (.t 74))]
def al4 := rg rf [8]
@[go_sem] theorem r_ai_11_u : Gr X K s al4 rf [8] := go_region _ _
def c_ai : ICode := (.seq r_ai_0 (.seq r_ai_1 (.cond (.t 22) (.seq r_ai_2 .ret) (.seq r_ai_3 (.seq (.seq r_ai_4 (.block 0 (.loop apz))) (.seq al4 .ret))))))
def i_ai : IFunc := ⟨4, [.cell 8 (some 5)], c_ai⟩
def a_ai : Advice := ⟨[72], [(10, [8]), (6, [0, 1, 2, 7, 8, 9, 10]), (9, [0, 1, 2, 7, 8, 9, 10]), (8, [0, 1, 2, 7, 8, 9, 10, 11, 59]), (7, [0, 1, 2, 7, 8, 9, 10, 11]), (5, [0, 1, 2, 7, 8, 9, 10, 39]), (4, [0, 1, 2, 7, 8, 9, 10]), (3, [0, 1, 2, 7, 8, 9]), (2, [8]), (1, [0, 1, 2, 7, 8, 22]), (0, [0, 1, 2, 7, 8])], [], [], [], []⟩
/-! ingot/ingotref13.Flatten -/
@[go_sem] def ach : Ops := [
oo 1 (.box 6 (.t 0)), oo 2 (.asg (.c .nilS))]
def r_ay_0 := rg ach [1]
@[go_sem] theorem r_ay_0_u : Gr X K s r_ay_0 ach [1] := go_region _ _
@[go_sem] def acg : Ops := [
oo 3 (.load (some 6) (.t 1)), oo 4 (.call false n_a7 [(.t 3)]), oo 5 (.bin .neq (.t 4) (ci 0))]
def r_ay_1 := rg acg [1, 5]
@[go_sem] theorem r_ay_1_u : Gr X K s r_ay_1 acg [1, 5] := go_region _ _
@[go_sem] def acf : Ops := [
oo 2 (.asg (.c .nilS))]
def r_ay_2 := rg acf [2]
@[go_sem] theorem r_ay_2_u : Gr X K s r_ay_2 acf [2] := go_region _ _
@[go_sem] def ace : Ops := [
oo 6 (.load (some 6) (.t 1)), oo 7 (.callg true n_b4 [(.c .nilS), (.t 6), (ci (-1)), (ci 1)] 0), oo 2 (.asg (.t 7))]
def r_ay_3 := rg ace [2]
@[go_sem] theorem r_ay_3_u : Gr X K s r_ay_3 ace [2] := go_region _ _
def c_ay : ICode := (.seq r_ay_0 (.seq r_ay_1 (.cond (.t 5) (.seq r_ay_2 .ret) (.seq r_ay_3 .ret))))
def i_ay : IFunc := ⟨1, [.t 2], c_ay⟩
def a_ay : Advice := ⟨[7], [(3, [2]), (2, [2]), (1, [1, 5]), (0, [1])], [], [], [(7, 0)], []⟩
/-! ingot/ingotref14.Kid -/
@[go_sem] def acu : Ops := [
oo 3 (.box 6 (.t 0)), oo 4 (.box 5 (.t 1)), oo 6 (.alloc [(.int .i64 0), .nilS, .nilS, (.int .i64 0), (.int .i64 0), (.int .i64 0)])]
def r_aw_0 := rg acu [2, 3, 4, 6]
@[go_sem] theorem r_aw_0_u : Gr X K s r_aw_0 acu [2, 3, 4, 6] := go_region _ _
@[go_sem] def act : Ops := [
oo 7 (.fieldA 0 (.t 3)), oo 8 (.load none (.t 7))]
def r_aw_1 := rg act [2, 3, 4, 6, 8]
@[go_sem] theorem r_aw_1_u : Gr X K s r_aw_1 act [2, 3, 4, 6, 8] := go_region _ _
@[go_sem] def acs : Ops := [
oo 10 (.bin .eql (.t 8) (ci 10)), oo 9 (.asg (.t 10))]
def r_aw_2 := rg acs [2, 3, 4, 6, 8, 9]
@[go_sem] theorem r_aw_2_u : Gr X K s r_aw_2 acs [2, 3, 4, 6, 8, 9] := go_region _ _
@[go_sem] def acr : Ops := [
oo 11 (.fieldA 2 (.t 3)), oo 12 (.load none (.t 11)), oo 13 (.idxA 6 (.t 12) (ci 0)), oo 14 (.load (some 6) (.t 13)), ow (.store 6 (.t 6) (.t 14))]
def r_aw_3 := rg acr [6]
@[go_sem] theorem r_aw_3_u : Gr X K s r_aw_3 acr [6] := go_region _ _
@[go_sem] def acq : Ops := [
oo 16 (.bin .eql (.t 8) (ci 11)), oo 15 (.asg (.t 16))]
def r_aw_4 := rg acq [2, 3, 4, 6, 8, 15]
@[go_sem] theorem r_aw_4_u : Gr X K s r_aw_4 acq [2, 3, 4, 6, 8, 15] := go_region _ _
@[go_sem] def acp : Ops := [
oo 17 (.fieldA 2 (.t 3)), oo 18 (.load none (.t 17)), oo 19 (.mv (.t 2)), oo 20 (.bin .rem (.t 19) (ci 2)), oo 21 (.idxA 6 (.t 18) (.t 20)), oo 22 (.load (some 6) (.t 21)), ow (.store 6 (.t 6) (.t 22))]
def r_aw_5 := rg acp [6]
@[go_sem] theorem r_aw_5_u : Gr X K s r_aw_5 acp [6] := go_region _ _
@[go_sem] def aco : Ops := [
oo 24 (.bin .eql (.t 8) (ci 13)), oo 23 (.asg (.t 24))]
def r_aw_6 := rg aco [2, 3, 4, 6, 23]
@[go_sem] theorem r_aw_6_u : Gr X K s r_aw_6 aco [2, 3, 4, 6, 23] := go_region _ _
@[go_sem] def acn : Ops := [
oo 25 (.fieldA 2 (.t 3)), oo 26 (.load none (.t 25)), oo 27 (.fieldA 1 (.t 4)), oo 28 (.load none (.t 27)), oo 29 (.idxA 6 (.t 26) (.t 28)), oo 30 (.load (some 6) (.t 29)), ow (.store 6 (.t 6) (.t 30))]
def r_aw_7 := rg acn [6]
@[go_sem] theorem r_aw_7_u : Gr X K s r_aw_7 acn [6] := go_region _ _
@[go_sem] def acm : Ops := [
oo 31 (.fieldA 2 (.t 3)), oo 32 (.load none (.t 31)), oo 33 (.mv (.t 2)), oo 34 (.idxA 6 (.t 32) (.t 33)), oo 35 (.load (some 6) (.t 34)), ow (.store 6 (.t 6) (.t 35))]
def r_aw_8 := rg acm [6]
@[go_sem] theorem r_aw_8_u : Gr X K s r_aw_8 acm [6] := go_region _ _
def c_aw : ICode := (.seq r_aw_0 (.seq (.seq r_aw_1 (.block 0 (.seq r_aw_2 (.cond (.t 9) (.seq r_aw_3 .ret) (.seq r_aw_4 (.cond (.t 15) (.seq r_aw_5 .ret) (.seq r_aw_6 (.cond (.t 23) (.seq r_aw_7 .ret) .skip)))))))) (.seq r_aw_8 .ret)))
def i_aw : IFunc := ⟨3, [.cell 6 (some 6)], c_aw⟩
def a_aw : Advice := ⟨[], [(8, [6]), (3, [6]), (5, [6]), (7, [6]), (6, [2, 3, 4, 6, 23]), (4, [2, 3, 4, 6, 8, 15]), (2, [2, 3, 4, 6, 8, 9]), (1, [2, 3, 4, 6, 8]), (0, [2, 3, 4, 6])], [], [], [], []⟩
/-! ingot/ingotref14.Signs -/
@[go_sem] def adx : Ops := [
oo 2 (.asg (ci 0))]
def r_ao_0 := rg adx [0]
@[go_sem] theorem r_ao_0_u : Gr X K s r_ao_0 adx [0] := go_region _ _
@[go_sem] def adw : Ops := [
oo 3 (.asg (ci 0))]
def r_ao_1 := rg adw [0, 3]
@[go_sem] theorem r_ao_1_u : Gr X K s r_ao_1 adw [0, 3] := go_region _ _
@[go_sem] def adv : Ops := [
oo 4 (.asg (ci 0))]
def r_ao_2 := rg adv [0, 3, 4]
@[go_sem] theorem r_ao_2_u : Gr X K s r_ao_2 adv [0, 3, 4] := go_region _ _
@[go_sem] def adu : Ops := [
oo 5 (.mv (.t 4)), oo 6 (.mv (.t 0)), oo 7 (.len false (.t 6)), oo 8 (.bin .lss (.t 5) (.t 7))]
def ala := rg adu [0, 3, 4, 8]
@[go_sem] theorem r_ao_3_u : Gr X K s ala adu [0, 3, 4, 8] := go_region _ _
@[go_sem] def adt : Ops := [
oo 11 (.mv (.t 0)), oo 12 (.mv (.t 4)), oo 13 (.idxA 1 (.t 11) (.t 12)), oo 14 (.load none (.t 13)), oo 15 (.bin .shr (.t 14) (.c (.int .u64 6))), oo 16 (.bin .neq (.t 15) (.c (.int .u8 2)))]
def ak9 := rg adt [0, 3, 4, 16]
@[go_sem] theorem r_ao_4_u : Gr X K s ak9 adt [0, 3, 4, 16] := go_region _ _
@[go_sem] def ads : Ops := [
oo 17 (.mv (.t 3)), oo 18 (.bin .add (.t 17) (ci 1)), oo 3 (.asg (.t 18))]
def ak8 := rg ads [0, 3, 4]
@[go_sem] theorem r_ao_5_u : Gr X K s ak8 ads [0, 3, 4] := go_region _ _
@[go_sem] def adr : Ops := [
oo 9 (.mv (.t 4)), oo 10 (.bin .add (.t 9) (ci 1)), oo 4 (.asg (.t 10))]
def ak7 := rg adr [0, 3, 4]
@[go_sem] theorem r_ao_6_u : Gr X K s ak7 adr [0, 3, 4] := go_region _ _
def apv : ICode := (.seq (.seq ala (.cond (.t 8) .skip (.exit 0))) (.seq (.block 1 (.seq ak9 (.cond (.t 16) ak8 .skip))) ak7))
@[go_sem] theorem b_ao_7_u : Gn X K s apv (.seq (.seq ala (.cond (.t 8) .skip (.exit 0))) (.seq (.block 1 (.seq ak9 (.cond (.t 16) ak8 .skip))) ak7)) := rfl
@[go_sem] def adq : Ops := [
oo 19 (.mv (.t 3)), oo 2 (.asg (.t 19))]
def r_ao_8 := rg adq [2]
@[go_sem] theorem r_ao_8_u : Gr X K s r_ao_8 adq [2] := go_region _ _
def c_ao : ICode := (.seq r_ao_0 (.seq r_ao_1 (.seq (.seq r_ao_2 (.block 0 (.loop apv))) (.seq r_ao_8 .ret))))
def i_ao : IFunc := ⟨1, [.t 2], c_ao⟩
def a_ao : Advice := ⟨[], [(7, [2]), (4, [0, 3, 4]), (6, [0, 3, 4]), (5, [0, 3, 4, 16]), (3, [0, 3, 4, 8]), (2, [0, 3, 4]), (1, [0, 3]), (0, [0])], [], [], [], []⟩
/-! ingot/ingotref13.Leaf -/
@[go_sem] def abp : Ops := [
oo 2 (.asg (.c (.bool false)))]
def r_bm_0 := rg abp [0]
@[go_sem] theorem r_bm_0_u : Gr X K s r_bm_0 abp [0] := go_region _ _
@[go_sem] def abo : Ops := [
oo 3 (.mv (.t 0)), oo 4 (.bin .neq (.t 3) (ci 10)), oo 5 (.mv (.t 4)), og 6 5 true (.mv (.t 0)), og 7 5 true (.bin .neq (.t 6) (ci 11)), oo 8 (.pick (.t 5) (.t 7) (.c (.bool false))), oo 9 (.mv (.t 8)), og 10 9 true (.mv (.t 0)), og 11 9 true (.bin .neq (.t 10) (ci 12)), oo 12 (.pick (.t 9) (.t 11) (.c (.bool false))), oo 13 (.mv (.t 12)), og 14 13 true (.mv (.t 0)), og 15 13 true (.bin .neq (.t 14) (ci 13)), oo 16 (.pick (.t 13) (.t 15) (.c (.bool false))), oo 2 (.asg (.t 16))]
def r_bm_1 := rg abo [2]
@[go_sem] theorem r_bm_1_u : Gr X K s r_bm_1 abo [2] := go_region _ _
def c_bm : ICode := (.seq r_bm_0 (.seq r_bm_1 .ret))
def i_bm : IFunc := ⟨1, [.t 2], c_bm⟩
def a_bm : Advice := ⟨[], [(1, [2]), (0, [0])], [], [], [], []⟩
/-! ingot/ingotref14.Texts -/
@[go_sem] def abt : Ops := [
oo 2 (.asg (.c (.bool false)))]
def r_bj_0 := rg abt [0]
@[go_sem] theorem r_bj_0_u : Gr X K s r_bj_0 abt [0] := go_region _ _
@[go_sem] def abs : Ops := [
oo 3 (.mv (.t 0)), oo 4 (.bin .eql (.t 3) (ci 7)), oo 5 (.mv (.t 4)), og 6 5 false (.mv (.t 0)), og 7 5 false (.bin .eql (.t 6) (ci 16)), oo 8 (.pick (.t 5) (.c (.bool true)) (.t 7)), oo 9 (.mv (.t 8)), og 10 9 false (.mv (.t 0)), og 11 9 false (.bin .eql (.t 10) (ci 17)), oo 12 (.pick (.t 9) (.c (.bool true)) (.t 11)), oo 13 (.mv (.t 12)), og 14 13 false (.mv (.t 0)), og 15 13 false (.bin .eql (.t 14) (ci 8)), oo 16 (.pick (.t 13) (.c (.bool true)) (.t 15)), oo 2 (.asg (.t 16))]
def r_bj_1 := rg abs [2]
@[go_sem] theorem r_bj_1_u : Gr X K s r_bj_1 abs [2] := go_region _ _
def c_bj : ICode := (.seq r_bj_0 (.seq r_bj_1 .ret))
def i_bj : IFunc := ⟨1, [.t 2], c_bj⟩
def a_bj : Advice := ⟨[], [(1, [2]), (0, [0])], [], [], [], []⟩
/-! ingot/ingotref12.Check -/
@[go_sem] def abr : Ops := [
oo 4 (.asg (.c (.bool false)))]
def r_bl_0 := rg abr [0, 1]
@[go_sem] theorem r_bl_0_u : Gr X K s r_bl_0 abr [0, 1] := go_region _ _
@[go_sem] def abq : Ops := [
oo 5 (.mv (.t 0)), oo 6 (.bin .geq (.t 5) (ci (-1099511627776))), oo 7 (.mv (.t 6)), og 8 7 true (.mv (.t 0)), og 9 7 true (.bin .leq (.t 8) (ci 1099511627776)), oo 10 (.pick (.t 7) (.t 9) (.c (.bool false))), oo 11 (.mv (.t 10)), og 12 11 true (.mv (.t 1)), og 13 11 true (.bin .geq (.t 12) (ci 0)), oo 14 (.pick (.t 11) (.t 13) (.c (.bool false))), oo 15 (.mv (.t 14)), og 16 15 true (.mv (.t 1)), og 17 15 true (.bin .lss (.t 16) (ci 1000000000)), oo 18 (.pick (.t 15) (.t 17) (.c (.bool false))), oo 4 (.asg (.t 18))]
def r_bl_1 := rg abq [4]
@[go_sem] theorem r_bl_1_u : Gr X K s r_bl_1 abq [4] := go_region _ _
def c_bl : ICode := (.seq r_bl_0 (.seq r_bl_1 .ret))
def i_bl : IFunc := ⟨2, [.t 4], c_bl⟩
def a_bl : Advice := ⟨[], [(1, [4]), (0, [0, 1])], [], [], [], []⟩
/-! ingot/ingotref11.digits -/
@[go_sem] def ada : Ops := [
oo 2 (.asg (.c (.str [])))]
def r_au_0 := rg ada [0]
@[go_sem] theorem r_au_0_u : Gr X K s r_au_0 ada [0] := go_region _ _
@[go_sem] def ac9 : Ops := [
oo 4 (.mv (.t 0)), oo 5 (.bin .rem (.t 4) (.c (.int .u64 10))), oo 6 (.bin .add (.c (.int .u64 48)) (.t 5)), oo 7 (.cvInt .u8 (.t 6)), oo 8 (.lit false 1 1 (.int .u8 0) [(0, (.t 7))]), oo 9 (.b2s (.t 8)), oo 3 (.asg (.t 9))]
def r_au_1 := rg ac9 [0, 3]
@[go_sem] theorem r_au_1_u : Gr X K s r_au_1 ac9 [0, 3] := go_region _ _
@[go_sem] def ac8 : Ops := [
oo 10 (.mv (.t 0)), oo 11 (.bin .geq (.t 10) (.c (.int .u64 10)))]
def ak4 := rg ac8 [0, 3, 11]
@[go_sem] theorem r_au_2_u : Gr X K s ak4 ac8 [0, 3, 11] := go_region _ _
@[go_sem] def ac7 : Ops := [
oo 12 (.mv (.t 0)), oo 13 (.bin .quo (.t 12) (.c (.int .u64 10))), oo 0 (.asg (.t 13))]
def ak3 := rg ac7 [0, 3]
@[go_sem] theorem r_au_3_u : Gr X K s ak3 ac7 [0, 3] := go_region _ _
@[go_sem] def ac6 : Ops := [
oo 14 (.mv (.t 0)), oo 15 (.bin .rem (.t 14) (.c (.int .u64 10))), oo 16 (.bin .add (.c (.int .u64 48)) (.t 15)), oo 17 (.cvInt .u8 (.t 16)), oo 18 (.lit false 1 1 (.int .u8 0) [(0, (.t 17))]), oo 19 (.b2s (.t 18)), oo 20 (.mv (.t 3)), oo 21 (.bin .add (.t 19) (.t 20)), oo 3 (.asg (.t 21))]
def ak2 := rg ac6 [0, 3]
@[go_sem] theorem r_au_4_u : Gr X K s ak2 ac6 [0, 3] := go_region _ _
def apt : ICode := (.seq (.seq ak4 (.cond (.t 11) .skip (.exit 0))) (.block 1 (.seq ak3 ak2)))
@[go_sem] theorem b_au_5_u : Gn X K s apt (.seq (.seq ak4 (.cond (.t 11) .skip (.exit 0))) (.block 1 (.seq ak3 ak2))) := rfl
@[go_sem] def ac5 : Ops := [
oo 22 (.mv (.t 3)), oo 2 (.asg (.t 22))]
def ak1 := rg ac5 [2]
@[go_sem] theorem r_au_6_u : Gr X K s ak1 ac5 [2] := go_region _ _
def c_au : ICode := (.seq r_au_0 (.seq r_au_1 (.seq (.block 0 (.loop apt)) (.seq ak1 .ret))))
def i_au : IFunc := ⟨1, [.t 2], c_au⟩
def a_au : Advice := ⟨[], [(5, [2]), (4, [0, 3]), (3, [0, 3]), (2, [0, 3, 11]), (1, [0, 3]), (0, [0])], [], [], [], []⟩
/-! ingot/ingotref11.size -/
@[go_sem] def acd : Ops := [
oo 2 (.asg (.c (.int .u64 0)))]
def r_az_0 := rg acd [0]
@[go_sem] theorem r_az_0_u : Gr X K s r_az_0 acd [0] := go_region _ _
@[go_sem] def acb : Ops := [
oo 3 (.mv (.t 0)), oo 4 (.bin .lss (.t 3) (ci 0))]
def r_az_1 := rg acb [0, 4]
@[go_sem] theorem r_az_1_u : Gr X K s r_az_1 acb [0, 4] := go_region _ _
@[go_sem] def aca : Ops := [
oo 5 (.mv (.t 0)), oo 6 (.bin .add (.t 5) (ci 1)), oo 7 (.bin .sub (ci 0) (.t 6)), oo 8 (.cvInt .u64 (.t 7)), oo 9 (.bin .add (.t 8) (.c (.int .u64 1))), oo 2 (.asg (.t 9))]
def r_az_2 := rg aca [2]
@[go_sem] theorem r_az_2_u : Gr X K s r_az_2 aca [2] := go_region _ _
@[go_sem] def ab9 : Ops := [
oo 10 (.mv (.t 0)), oo 11 (.cvInt .u64 (.t 10)), oo 2 (.asg (.t 11))]
def r_az_3 := rg ab9 [2]
@[go_sem] theorem r_az_3_u : Gr X K s r_az_3 ab9 [2] := go_region _ _
def c_az : ICode := (.seq r_az_0 (.seq r_az_1 (.cond (.t 4) (.seq r_az_2 .ret) (.seq r_az_3 .ret))))
def i_az : IFunc := ⟨1, [.t 2], c_az⟩
def a_az : Advice := ⟨[], [(3, [2]), (2, [2]), (1, [0, 4]), (0, [0])], [], [], [], []⟩
/-! ingot/ingotref11.Digits -/
@[go_sem] def ahh : Ops := [
oo 2 (.asg (ci 0))]
def r_a8_0 := rg ahh [0]
@[go_sem] theorem r_a8_0_u : Gr X K s r_a8_0 ahh [0] := go_region _ _
@[go_sem] def ahg : Ops := [
oo 3 (.mv (.t 0)), oo 4 (.call false n_az [(.t 3)]), oo 5 (.call false n_au [(.t 4)]), oo 6 (.len true (.t 5)), oo 2 (.asg (.t 6))]
def r_a8_1 := rg ahg [2]
@[go_sem] theorem r_a8_1_u : Gr X K s r_a8_1 ahg [2] := go_region _ _
def c_a8 : ICode := (.seq r_a8_0 (.seq r_a8_1 .ret))
def i_a8 : IFunc := ⟨1, [.t 2], c_a8⟩
def a_a8 : Advice := ⟨[], [(1, [2]), (0, [0])], [], [], [], []⟩
/-! ingot/ingotref14.Numbers -/
@[go_sem] def agj : Ops := [
oo 3 (.box 6 (.t 0)), oo 6 (.asg (.c (.bool false)))]
def r_ae_0 := rg agj [1, 2, 3]
@[go_sem] theorem r_ae_0_u : Gr X K s r_ae_0 agj [1, 2, 3] := go_region _ _
@[go_sem] def agi : Ops := [
oo 7 (.mv (.t 2)), oo 8 (.bin .neq (.t 7) (ci 0)), oo 9 (.mv (.t 8)), og 10 9 true (.fieldA 0 (.t 3)), og 11 9 true (.load none (.t 10)), og 12 9 true (.bin .neq (.t 11) (ci 9)), oo 13 (.pick (.t 9) (.t 12) (.c (.bool false)))]
def r_ae_1 := rg agi [1, 2, 3, 13]
@[go_sem] theorem r_ae_1_u : Gr X K s r_ae_1 agi [1, 2, 3, 13] := go_region _ _
@[go_sem] def agh : Ops := [
oo 6 (.asg (.c (.bool false)))]
def r_ae_2 := rg agh [6]
@[go_sem] theorem r_ae_2_u : Gr X K s r_ae_2 agh [6] := go_region _ _
@[go_sem] def agf : Ops := [
oo 14 (.fieldA 0 (.t 3)), oo 15 (.load none (.t 14))]
def r_ae_3 := rg agf [1, 2, 3, 15]
@[go_sem] theorem r_ae_3_u : Gr X K s r_ae_3 agf [1, 2, 3, 15] := go_region _ _
@[go_sem] def age : Ops := [
oo 17 (.bin .eql (.t 15) (ci 0)), oo 16 (.asg (.t 17))]
def r_ae_4 := rg age [1, 2, 3, 15, 16]
@[go_sem] theorem r_ae_4_u : Gr X K s r_ae_4 age [1, 2, 3, 15, 16] := go_region _ _
@[go_sem] def agd : Ops := [
oo 18 (.mv (.t 1)), oo 19 (.bin .eql (.t 18) (ci 0)), oo 20 (.mv (.t 19)), og 21 20 false (.mv (.t 1)), og 22 20 false (.bin .eql (.t 21) (ci 1)), oo 23 (.pick (.t 20) (.c (.bool true)) (.t 22)), oo 6 (.asg (.t 23))]
def r_ae_5 := rg agd [6]
@[go_sem] theorem r_ae_5_u : Gr X K s r_ae_5 agd [6] := go_region _ _
@[go_sem] def agc : Ops := [
oo 25 (.bin .eql (.t 15) (ci 1)), oo 24 (.asg (.t 25))]
def r_ae_6 := rg agc [1, 2, 3, 15, 24]
@[go_sem] theorem r_ae_6_u : Gr X K s r_ae_6 agc [1, 2, 3, 15, 24] := go_region _ _
@[go_sem] def agb : Ops := [
oo 26 (.mv (.t 1)), oo 27 (.bin .geq (.t 26) (ci (-128))), oo 28 (.mv (.t 27)), og 29 28 true (.mv (.t 1)), og 30 28 true (.bin .leq (.t 29) (ci 127)), oo 31 (.pick (.t 28) (.t 30) (.c (.bool false))), oo 6 (.asg (.t 31))]
def r_ae_7 := rg agb [6]
@[go_sem] theorem r_ae_7_u : Gr X K s r_ae_7 agb [6] := go_region _ _
@[go_sem] def aga : Ops := [
oo 33 (.bin .eql (.t 15) (ci 2)), oo 32 (.asg (.t 33))]
def r_ae_8 := rg aga [1, 2, 3, 15, 32]
@[go_sem] theorem r_ae_8_u : Gr X K s r_ae_8 aga [1, 2, 3, 15, 32] := go_region _ _
@[go_sem] def af9 : Ops := [
oo 34 (.mv (.t 1)), oo 35 (.bin .geq (.t 34) (ci (-32768))), oo 36 (.mv (.t 35)), og 37 36 true (.mv (.t 1)), og 38 36 true (.bin .leq (.t 37) (ci 32767)), oo 39 (.pick (.t 36) (.t 38) (.c (.bool false))), oo 6 (.asg (.t 39))]
def r_ae_9 := rg af9 [6]
@[go_sem] theorem r_ae_9_u : Gr X K s r_ae_9 af9 [6] := go_region _ _
@[go_sem] def td : Ops := [
oo 41 (.bin .eql (.t 15) (ci 3)), oo 40 (.asg (.t 41))]
def am2 := rg td [1, 2, 3, 15, 40]
@[go_sem] theorem r_ae_10_u : Gr X K s am2 td [1, 2, 3, 15, 40] := go_region _ _
@[go_sem] def tc : Ops := [
oo 42 (.bin .eql (.t 15) (ci 15)), oo 40 (.asg (.t 42))]
def am1 := rg tc [1, 2, 3, 15, 40]
@[go_sem] theorem r_ae_11_u : Gr X K s am1 tc [1, 2, 3, 15, 40] := go_region _ _
@[go_sem] def ta : Ops := [
oo 43 (.mv (.t 1)), oo 44 (.bin .geq (.t 43) (ci (-2147483648))), oo 45 (.mv (.t 44)), og 46 45 true (.mv (.t 1)), og 47 45 true (.bin .leq (.t 46) (ci 2147483647)), oo 48 (.pick (.t 45) (.t 47) (.c (.bool false))), oo 6 (.asg (.t 48))]
def am0 := rg ta [6]
@[go_sem] theorem r_ae_12_u : Gr X K s am0 ta [6] := go_region _ _
@[go_sem] def s9 : Ops := [
oo 50 (.bin .eql (.t 15) (ci 4)), oo 49 (.asg (.t 50))]
def amz := rg s9 [1, 2, 3, 15, 49]
@[go_sem] theorem r_ae_13_u : Gr X K s amz s9 [1, 2, 3, 15, 49] := go_region _ _
@[go_sem] def s8 : Ops := [
oo 6 (.asg (.c (.bool true)))]
def amy := rg s8 [6]
@[go_sem] theorem r_ae_14_u : Gr X K s amy s8 [6] := go_region _ _
@[go_sem] def s7 : Ops := [
oo 52 (.bin .eql (.t 15) (ci 14)), oo 51 (.asg (.t 52))]
def amx := rg s7 [1, 2, 3, 15, 51]
@[go_sem] theorem r_ae_15_u : Gr X K s amx s7 [1, 2, 3, 15, 51] := go_region _ _
@[go_sem] def sz : Ops := [
oo 53 (.mv (.t 1)), oo 54 (.call false n_a8 [(.t 53)]), oo 55 (.fieldA 4 (.t 3)), oo 56 (.load none (.t 55)), oo 57 (.bin .leq (.t 54) (.t 56)), oo 6 (.asg (.t 57))]
def s6 : List (Nat × Nat) := [(0, 2), (1, 2), (0, 3), (1, 3)]
def amw : ICode := .region sz s6 [6]
@[go_sem] theorem r_ae_16_u : go X (.c amw :: K) s = goRU X [] s6 sz [6] K s := go_regionU' _ _ _ _
@[go_sem] def sy : Ops := [
oo 59 (.bin .eql (.t 15) (ci 9)), oo 58 (.asg (.t 59))]
def amv := rg sy [1, 2, 3, 15, 58]
@[go_sem] theorem r_ae_17_u : Gr X K s amv sy [1, 2, 3, 15, 58] := go_region _ _
@[go_sem] def sx : Ops := [
oo 60 (.mv (.t 1)), oo 61 (.mv (.t 2)), oo 62 (.call false n_bl [(.t 60), (.t 61)]), oo 6 (.asg (.t 62))]
def amu := rg sx [6]
@[go_sem] theorem r_ae_18_u : Gr X K s amu sx [6] := go_region _ _
@[go_sem] def sw : Ops := [
oo 64 (.bin .eql (.t 15) (ci 13)), oo 63 (.asg (.t 64))]
def amt := rg sw [1, 3, 63]
@[go_sem] theorem r_ae_19_u : Gr X K s amt sw [1, 3, 63] := go_region _ _
@[go_sem] def sv : Ops := [
oo 65 (.mv (.t 1)), oo 66 (.bin .geq (.t 65) (ci 0)), oo 67 (.mv (.t 66)), og 68 67 true (.mv (.t 1)), og 69 67 true (.fieldA 2 (.t 3)), og 70 67 true (.load none (.t 69)), og 71 67 true (.len false (.t 70)), og 72 67 true (.bin .lss (.t 68) (.t 71)), oo 73 (.pick (.t 67) (.t 72) (.c (.bool false))), oo 6 (.asg (.t 73))]
def ams := rg sv [6]
@[go_sem] theorem r_ae_20_u : Gr X K s ams sv [6] := go_region _ _
@[go_sem] def su : Ops := [
oo 74 (.mv (.t 1)), oo 75 (.bin .eql (.t 74) (ci 0)), oo 6 (.asg (.t 75))]
def amr := rg su [6]
@[go_sem] theorem r_ae_21_u : Gr X K s amr su [6] := go_region _ _
def c_ae : ICode := (.seq r_ae_0 (.seq r_ae_1 (.cond (.t 13) (.seq r_ae_2 .ret) (.seq (.seq r_ae_3 (.block 0 (.seq r_ae_4 (.cond (.t 16) (.seq r_ae_5 .ret) (.seq r_ae_6 (.cond (.t 24) (.seq r_ae_7 .ret) (.seq r_ae_8 (.cond (.t 32) (.seq r_ae_9 .ret) (.seq (.seq am2 (.cond (.t 40) .skip am1)) (.cond (.t 40) (.seq am0 .ret) (.seq amz (.cond (.t 49) (.seq amy .ret) (.seq amx (.cond (.t 51) (.seq amw .ret) (.seq amv (.cond (.t 58) (.seq amu .ret) (.seq amt (.cond (.t 63) (.seq ams .ret) .skip)))))))))))))))))) (.seq amr .ret)))))
def i_ae : IFunc := ⟨3, [.t 6], c_ae⟩
def a_ae : Advice := ⟨[], [(21, [6]), (5, [6]), (7, [6]), (9, [6]), (12, [6]), (14, [6]), (16, [6]), (18, [6]), (20, [6]), (19, [1, 3, 63]), (17, [1, 2, 3, 15, 58]), (15, [1, 2, 3, 15, 51]), (13, [1, 2, 3, 15, 49]), (11, [1, 2, 3, 15, 40]), (10, [1, 2, 3, 15, 40]), (8, [1, 2, 3, 15, 32]), (6, [1, 2, 3, 15, 24]), (4, [1, 2, 3, 15, 16]), (3, [1, 2, 3, 15]), (2, [6]), (1, [1, 2, 3, 13]), (0, [1, 2, 3])], [], [], [], []⟩
/-! ingot/ingotref14.Check -/
@[go_sem] def ag5 : Ops := [
oo 2 (.box 6 (.t 0)), oo 3 (.box 5 (.t 1)), oo 4 (.asg (ci 0))]
def r_ab_0 := rg ag5 [2, 3]
@[go_sem] theorem r_ab_0_u : Gr X K s r_ab_0 ag5 [2, 3] := go_region _ _
@[go_sem] def ag4 : Ops := [
oo 8 (.fieldA 0 (.t 3)), oo 9 (.load none (.t 8))]
def r_ab_1 := rg ag4 [2, 3, 9]
@[go_sem] theorem r_ab_1_u : Gr X K s r_ab_1 ag4 [2, 3, 9] := go_region _ _
@[go_sem] def ag3 : Ops := [
oo 10 (.fieldA 1 (.t 3)), oo 11 (.load none (.t 10)), oo 12 (.bin .neq (.t 11) (ci 0)), oo 13 (.mv (.t 12)), og 14 13 false (.fieldA 2 (.t 3)), og 15 13 false (.load none (.t 14)), og 16 13 false (.bin .neq (.t 15) (ci 0)), oo 17 (.pick (.t 13) (.c (.bool true)) (.t 16)), oo 18 (.mv (.t 17)), og 19 18 false (.fieldA 3 (.t 3)), og 20 18 false (.load none (.t 19)), og 21 18 false (.len false (.t 20)), og 22 18 false (.bin .gtr (.t 21) (ci 0)), oo 23 (.pick (.t 18) (.c (.bool true)) (.t 22)), oo 24 (.mv (.t 23)), og 25 24 false (.fieldA 4 (.t 3)), og 26 24 false (.load none (.t 25)), og 27 24 false (.len false (.t 26)), og 28 24 false (.bin .gtr (.t 27) (ci 0)), oo 29 (.pick (.t 24) (.c (.bool true)) (.t 28))]
def r_ab_2 := rg ag3 [29]
@[go_sem] theorem r_ab_2_u : Gr X K s r_ab_2 ag3 [29] := go_region _ _
@[go_sem] def ag2 : Ops := [
oo 4 (.asg (ci 1))]
def r_ab_3 := rg ag2 [4]
@[go_sem] theorem r_ab_3_u : Gr X K s r_ab_3 ag2 [4] := go_region _ _
@[go_sem] def ag1 : Ops := [
oo 4 (.asg (ci 0))]
def r_ab_4 := rg ag1 [4]
@[go_sem] theorem r_ab_4_u : Gr X K s r_ab_4 ag1 [4] := go_region _ _
@[go_sem] def ag0 : Ops := [
oo 30 (.load (some 6) (.t 2)), oo 31 (.fieldA 1 (.t 3)), oo 32 (.load none (.t 31)), oo 33 (.fieldA 2 (.t 3)), oo 34 (.load none (.t 33)), oo 35 (.call false n_ae [(.t 30), (.t 32), (.t 34)]), oo 36 (.un .not (.t 35)), oo 37 (.mv (.t 36)), og 38 37 false (.fieldA 3 (.t 3)), og 39 37 false (.load none (.t 38)), og 40 37 false (.len false (.t 39)), og 41 37 false (.bin .gtr (.t 40) (ci 0)), og 42 37 false (.mv (.t 41)), og 43 42 true (.fieldA 0 (.t 2)), og 44 42 true (.load none (.t 43)), og 45 42 true (.call false n_bj [(.t 44)]), og 46 42 true (.un .not (.t 45)), og 47 37 false (.pick (.t 42) (.t 46) (.c (.bool false))), oo 48 (.pick (.t 37) (.c (.bool true)) (.t 47)), oo 49 (.mv (.t 48)), og 50 49 false (.fieldA 4 (.t 3)), og 51 49 false (.load none (.t 50)), og 52 49 false (.len false (.t 51)), og 53 49 false (.bin .gtr (.t 52) (ci 0)), og 54 49 false (.mv (.t 53)), og 55 54 true (.fieldA 0 (.t 2)), og 56 54 true (.load none (.t 55)), og 57 54 true (.call false n_bm [(.t 56)]), og 58 49 false (.pick (.t 54) (.t 57) (.c (.bool false))), oo 59 (.pick (.t 49) (.c (.bool true)) (.t 58))]
def r_ab_5 := rg ag0 [2, 3, 59]
@[go_sem] theorem r_ab_5_u : Gr X K s r_ab_5 ag0 [2, 3, 59] := go_region _ _
@[go_sem] def agz : Ops := [
oo 4 (.asg (ci 1))]
def r_ab_6 := rg agz [4]
@[go_sem] theorem r_ab_6_u : Gr X K s r_ab_6 agz [4] := go_region _ _
@[go_sem] def agx : Ops := [
oo 60 (.fieldA 3 (.t 3)), oo 61 (.load none (.t 60)), oo 62 (.len false (.t 61)), oo 63 (.bin .gtr (.t 62) (ci 4096)), oo 64 (.mv (.t 63)), og 65 64 false (.fieldA 0 (.t 2)), og 66 64 false (.load none (.t 65)), og 67 64 false (.bin .eql (.t 66) (ci 16)), og 68 64 false (.mv (.t 67)), og 69 68 false (.fieldA 0 (.t 2)), og 70 68 false (.load none (.t 69)), og 71 68 false (.bin .eql (.t 70) (ci 17)), og 72 64 false (.pick (.t 68) (.c (.bool true)) (.t 71)), og 73 64 false (.mv (.t 72)), og 74 73 true (.fieldA 3 (.t 3)), og 75 73 true (.load none (.t 74)), og 76 73 true (.call false n_ao [(.t 75)]), og 77 73 true (.fieldA 3 (.t 2)), og 78 73 true (.load none (.t 77)), og 79 73 true (.bin .gtr (.t 76) (.t 78)), og 80 64 false (.pick (.t 73) (.t 79) (.c (.bool false))), oo 81 (.pick (.t 64) (.c (.bool true)) (.t 80))]
def agy : List (Nat × Nat) := [(14, 17), (15, 17), (16, 17), (14, 18), (15, 18), (16, 18)]
def r_ab_7 : ICode := .region agx agy [2, 3, 81]
@[go_sem] theorem r_ab_7_u : go X (.c r_ab_7 :: K) s = goRU X [] agy agx [2, 3, 81] K s := go_regionU' _ _ _ _
@[go_sem] def agw : Ops := [
oo 4 (.asg (ci 4))]
def r_ab_8 := rg agw [4]
@[go_sem] theorem r_ab_8_u : Gr X K s r_ab_8 agw [4] := go_region _ _
@[go_sem] def agv : Ops := [
oo 82 (.fieldA 4 (.t 3)), oo 83 (.load none (.t 82)), oo 84 (.len false (.t 83)), oo 5 (.asg (.t 84))]
def r_ab_9 := rg agv [2, 3, 5]
@[go_sem] theorem r_ab_9_u : Gr X K s r_ab_9 agv [2, 3, 5] := go_region _ _
@[go_sem] def uu : Ops := [
oo 85 (.fieldA 0 (.t 2)), oo 86 (.load none (.t 85))]
def anm := rg uu [2, 3, 5, 86]
@[go_sem] theorem r_ab_10_u : Gr X K s anm uu [2, 3, 5, 86] := go_region _ _
@[go_sem] def ut : Ops := [
oo 88 (.bin .eql (.t 86) (ci 10)), oo 87 (.asg (.t 88))]
def anl := rg ut [2, 3, 5, 86, 87]
@[go_sem] theorem r_ab_11_u : Gr X K s anl ut [2, 3, 5, 86, 87] := go_region _ _
@[go_sem] def ur : Ops := [
oo 89 (.mv (.t 5)), oo 90 (.bin .gtr (.t 89) (ci 16384))]
def ank := rg ur [2, 3, 5, 90]
@[go_sem] theorem r_ab_12_u : Gr X K s ank ur [2, 3, 5, 90] := go_region _ _
@[go_sem] def uq : Ops := [
oo 4 (.asg (ci 4))]
def anj := rg uq [4]
@[go_sem] theorem r_ab_13_u : Gr X K s anj uq [4] := go_region _ _
@[go_sem] def uo : Ops := [
oo 92 (.bin .eql (.t 86) (ci 11)), oo 91 (.asg (.t 92))]
def ani := rg uo [2, 3, 5, 86, 91]
@[go_sem] theorem r_ab_14_u : Gr X K s ani uo [2, 3, 5, 86, 91] := go_region _ _
@[go_sem] def um : Ops := [
oo 93 (.mv (.t 5)), oo 94 (.bin .rem (.t 93) (ci 2)), oo 95 (.bin .neq (.t 94) (ci 0))]
def anh := rg um [2, 3, 5, 95]
@[go_sem] theorem r_ab_15_u : Gr X K s anh um [2, 3, 5, 95] := go_region _ _
@[go_sem] def ul : Ops := [
oo 4 (.asg (ci 1))]
def ang := rg ul [4]
@[go_sem] theorem r_ab_16_u : Gr X K s ang ul [4] := go_region _ _
@[go_sem] def ui : Ops := [
oo 96 (.mv (.t 5)), oo 97 (.bin .gtr (.t 96) (ci 32768))]
def anf := rg ui [2, 3, 5, 97]
@[go_sem] theorem r_ab_17_u : Gr X K s anf ui [2, 3, 5, 97] := go_region _ _
@[go_sem] def uh : Ops := [
oo 4 (.asg (ci 4))]
def ane := rg uh [4]
@[go_sem] theorem r_ab_18_u : Gr X K s ane uh [4] := go_region _ _
@[go_sem] def ug : Ops := [
oo 99 (.bin .eql (.t 86) (ci 12)), oo 98 (.asg (.t 99))]
def anc := rg ug [2, 3, 5, 86, 98]
@[go_sem] theorem r_ab_19_u : Gr X K s anc ug [2, 3, 5, 86, 98] := go_region _ _
@[go_sem] def uf : Ops := [
oo 100 (.mv (.t 5)), oo 101 (.fieldA 2 (.t 2)), oo 102 (.load none (.t 101)), oo 103 (.len false (.t 102)), oo 104 (.bin .neq (.t 100) (.t 103))]
def anb := rg uf [2, 3, 5, 104]
@[go_sem] theorem r_ab_20_u : Gr X K s anb uf [2, 3, 5, 104] := go_region _ _
@[go_sem] def ue : Ops := [
oo 4 (.asg (ci 1))]
def ana := rg ue [4]
@[go_sem] theorem r_ab_21_u : Gr X K s ana ue [4] := go_region _ _
@[go_sem] def ud : Ops := [
oo 106 (.bin .eql (.t 86) (ci 13)), oo 105 (.asg (.t 106))]
def am9 := rg ud [2, 3, 5, 105]
@[go_sem] theorem r_ab_22_u : Gr X K s am9 ud [2, 3, 5, 105] := go_region _ _
@[go_sem] def t8 : Ops := [
oo 107 (.mv (.t 5)), oo 108 (.bin .neq (.t 107) (ci 1))]
def am8 := rg t8 [2, 3, 5, 108]
@[go_sem] theorem r_ab_23_u : Gr X K s am8 t8 [2, 3, 5, 108] := go_region _ _
@[go_sem] def t7 : Ops := [
oo 4 (.asg (ci 1))]
def am7 := rg t7 [4]
@[go_sem] theorem r_ab_24_u : Gr X K s am7 t7 [4] := go_region _ _
@[go_sem] def t6 : Ops := [
oo 6 (.asg (ci 0))]
def am6 := rg t6 [2, 3, 5, 6]
@[go_sem] theorem r_ab_25_u : Gr X K s am6 t6 [2, 3, 5, 6] := go_region _ _
@[go_sem] def tz : Ops := [
oo 109 (.mv (.t 6)), oo 110 (.mv (.t 5)), oo 111 (.bin .lss (.t 109) (.t 110))]
def zj := rg tz [2, 3, 5, 6, 111]
@[go_sem] theorem r_ab_26_u : Gr X K s zj tz [2, 3, 5, 6, 111] := go_region _ _
@[go_sem] def tx : Ops := [
oo 114 (.fieldA 0 (.t 2)), oo 115 (.load none (.t 114)), oo 116 (.bin .eql (.t 115) (ci 11)), oo 117 (.mv (.t 116)), og 118 117 true (.mv (.t 6)), og 119 117 true (.bin .rem (.t 118) (ci 2)), og 120 117 true (.bin .eql (.t 119) (ci 0)), oo 121 (.pick (.t 117) (.t 120) (.c (.bool false))), oo 122 (.mv (.t 121)), og 123 122 true (.fieldA 4 (.t 3)), og 124 122 true (.load none (.t 123)), og 125 122 true (.mv (.t 6)), og 126 122 true (.idxA 5 (.t 124) (.t 125)), og 127 122 true (.fieldA 0 (.t 126)), og 128 122 true (.load none (.t 127)), oo 129 (.pick (.t 122) (.t 128) (.c (.bool false)))]
def zi := rg tx [2, 3, 5, 6, 129]
@[go_sem] theorem r_ab_27_u : Gr X K s zi tx [2, 3, 5, 6, 129] := go_region _ _
@[go_sem] def tw : Ops := [
oo 4 (.asg (ci 1))]
def zh := rg tw [4]
@[go_sem] theorem r_ab_28_u : Gr X K s zh tw [4] := go_region _ _
@[go_sem] def tt : Ops := [
oo 130 (.load (some 6) (.t 2)), oo 131 (.load (some 5) (.t 3)), oo 132 (.mv (.t 6)), oo 133 (.call false n_aw [(.t 130), (.t 131), (.t 132)]), oo 134 (.fieldA 4 (.t 3)), oo 135 (.load none (.t 134)), oo 136 (.mv (.t 6)), oo 137 (.idxA 5 (.t 135) (.t 136)), oo 138 (.load (some 5) (.t 137)), oo 139 (.call false n_ab [(.t 133), (.t 138)]), oo 7 (.asg (.t 139))]
def tu : List (Nat × Nat) := [(0, 1), (0, 2), (1, 2), (0, 4), (1, 4), (2, 4), (3, 4), (0, 5), (1, 5), (2, 5), (3, 5), (0, 6), (1, 6), (2, 6), (3, 6), (4, 6), (5, 6), (0, 7), (1, 7), (2, 7), (3, 7), (0, 8), (1, 8), (2, 8), (3, 8)]
def zg : ICode := .region tt tu [2, 3, 5, 6, 7]
@[go_sem] theorem r_ab_29_u : go X (.c zg :: K) s = goRU X [] tu tt [2, 3, 5, 6, 7] K s := go_regionU' _ _ _ _
@[go_sem] def tr : Ops := [
oo 140 (.mv (.t 7)), oo 141 (.bin .neq (.t 140) (ci 0))]
def zf := rg tr [2, 3, 5, 6, 7, 141]
@[go_sem] theorem r_ab_30_u : Gr X K s zf tr [2, 3, 5, 6, 7, 141] := go_region _ _
@[go_sem] def tq : Ops := [
oo 142 (.mv (.t 7)), oo 4 (.asg (.t 142))]
def ze := rg tq [4]
@[go_sem] theorem r_ab_31_u : Gr X K s ze tq [4] := go_region _ _
@[go_sem] def tp : Ops := [
oo 112 (.mv (.t 6)), oo 113 (.bin .add (.t 112) (ci 1)), oo 6 (.asg (.t 113))]
def zb := rg tp [2, 3, 5, 6]
@[go_sem] theorem r_ab_32_u : Gr X K s zb tp [2, 3, 5, 6] := go_region _ _
def aaz : ICode := (.seq (.seq zj (.cond (.t 111) .skip (.exit 1))) (.seq (.block 2 (.seq (.seq zi (.cond (.t 129) (.seq zh .ret) .skip)) (.seq zg (.seq zf (.cond (.t 141) (.seq ze .ret) .skip))))) zb))
@[go_sem] theorem b_ab_33_u : Gn X K s aaz (.seq (.seq zj (.cond (.t 111) .skip (.exit 1))) (.seq (.block 2 (.seq (.seq zi (.cond (.t 129) (.seq zh .ret) .skip)) (.seq zg (.seq zf (.cond (.t 141) (.seq ze .ret) .skip))))) zb)) := rfl
@[go_sem] def tn : Ops := [
oo 4 (.asg (ci 0))]
def za := rg tn [4]
@[go_sem] theorem r_ab_34_u : Gr X K s za tn [4] := go_region _ _
def c_ab : ICode := (.seq r_ab_0 (.seq r_ab_1 (.cond (.t 9) (.seq (.seq r_ab_2 (.cond (.t 29) (.seq r_ab_3 .ret) .skip)) (.seq r_ab_4 .ret)) (.seq r_ab_5 (.cond (.t 59) (.seq r_ab_6 .ret) (.seq r_ab_7 (.cond (.t 81) (.seq r_ab_8 .ret) (.seq r_ab_9 (.seq (.seq anm (.block 0 (.seq anl (.cond (.t 87) (.seq ank (.cond (.t 90) (.seq anj .ret) .skip)) (.seq ani (.cond (.t 91) (.seq (.seq anh (.cond (.t 95) (.seq ang .ret) .skip)) (.seq anf (.cond (.t 97) (.seq ane .ret) .skip))) (.seq anc (.cond (.t 98) (.seq anb (.cond (.t 104) (.seq ana .ret) .skip)) (.seq am9 (.cond (.t 105) (.seq am8 (.cond (.t 108) (.seq am7 .ret) .skip)) .skip)))))))))) (.seq (.seq am6 (.block 1 (.loop aaz))) (.seq za .ret)))))))))))
def i_ab : IFunc := ⟨2, [.t 4], c_ab⟩
def a_ab : Advice := ⟨[], [(33, [4]), (27, [2, 3, 5, 6]), (32, [4]), (31, [2, 3, 5, 6, 7, 141]), (30, [2, 3, 5, 6, 7]), (29, [4]), (28, [2, 3, 5, 6, 129]), (26, [2, 3, 5, 6, 111]), (25, [2, 3, 5, 6]), (13, [4]), (12, [2, 3, 5, 90]), (18, [4]), (17, [2, 3, 5, 97]), (16, [4]), (15, [2, 3, 5, 95]), (21, [4]), (20, [2, 3, 5, 104]), (24, [4]), (23, [2, 3, 5, 108]), (22, [2, 3, 5, 105]), (19, [2, 3, 5, 86, 98]), (14, [2, 3, 5, 86, 91]), (11, [2, 3, 5, 86, 87]), (10, [2, 3, 5, 86]), (9, [2, 3, 5]), (8, [4]), (7, [2, 3, 81]), (6, [4]), (5, [2, 3, 59]), (4, [4]), (3, [4]), (2, [29]), (1, [2, 3, 9]), (0, [2, 3])], [], [], [], []⟩
/-! ingot/ingotlaw14.few -/
@[go_sem] def aeu : Ops := [
oo 2 (.box 5 (.t 0)), oo 4 (.asg (ci 0))]
def r_ak_0 := rg aeu [1, 2]
@[go_sem] theorem r_ak_0_u : Gr X K s r_ak_0 aeu [1, 2] := go_region _ _
@[go_sem] def aet : Ops := [
oo 7 (.mv (.t 1)), oo 8 (.bin .gtr (.t 7) (ci 20)), oo 9 (.mv (.t 8)), og 10 9 false (.fieldA 4 (.t 2)), og 11 9 false (.load none (.t 10)), og 12 9 false (.len false (.t 11)), og 13 9 false (.bin .gtr (.t 12) (ci 400)), oo 14 (.pick (.t 9) (.c (.bool true)) (.t 13)), oo 15 (.mv (.t 14)), og 16 15 false (.fieldA 3 (.t 2)), og 17 15 false (.load none (.t 16)), og 18 15 false (.len false (.t 17)), og 19 15 false (.bin .gtr (.t 18) (ci 5000)), oo 20 (.pick (.t 15) (.c (.bool true)) (.t 19))]
def r_ak_1 := rg aet [1, 2, 20]
@[go_sem] theorem r_ak_1_u : Gr X K s r_ak_1 aet [1, 2, 20] := go_region _ _
@[go_sem] def aes : Ops := [
oo 4 (.asg (ci 1000))]
def r_ak_2 := rg aes [4]
@[go_sem] theorem r_ak_2_u : Gr X K s r_ak_2 aes [4] := go_region _ _
@[go_sem] def aer : Ops := [
oo 21 (.fieldA 3 (.t 2)), oo 22 (.load none (.t 21)), oo 23 (.len false (.t 22)), oo 24 (.bin .quo (.t 23) (ci 50)), oo 25 (.bin .add (ci 1) (.t 24)), oo 5 (.asg (.t 25))]
def r_ak_3 := rg aer [1, 2, 5]
@[go_sem] theorem r_ak_3_u : Gr X K s r_ak_3 aer [1, 2, 5] := go_region _ _
@[go_sem] def aeq : Ops := [
oo 6 (.asg (ci 0))]
def r_ak_4 := rg aeq [1, 2, 5, 6]
@[go_sem] theorem r_ak_4_u : Gr X K s r_ak_4 aeq [1, 2, 5, 6] := go_region _ _
@[go_sem] def aep : Ops := [
oo 26 (.mv (.t 6)), oo 27 (.fieldA 4 (.t 2)), oo 28 (.load none (.t 27)), oo 29 (.len false (.t 28)), oo 30 (.bin .lss (.t 26) (.t 29))]
def alt := rg aep [1, 2, 5, 6, 30]
@[go_sem] theorem r_ak_5_u : Gr X K s alt aep [1, 2, 5, 6, 30] := go_region _ _
@[go_sem] def aeo : Ops := [
oo 33 (.mv (.t 5)), oo 34 (.fieldA 4 (.t 2)), oo 35 (.load none (.t 34)), oo 36 (.mv (.t 6)), oo 37 (.idxA 5 (.t 35) (.t 36)), oo 38 (.load (some 5) (.t 37)), oo 39 (.mv (.t 1)), oo 40 (.bin .add (.t 39) (ci 1)), oo 41 (.call false n_ak [(.t 38), (.t 40)]), oo 42 (.bin .add (.t 33) (.t 41)), oo 5 (.asg (.t 42))]
def als := rg aeo [1, 2, 5, 6]
@[go_sem] theorem r_ak_6_u : Gr X K s als aeo [1, 2, 5, 6] := go_region _ _
@[go_sem] def aen : Ops := [
oo 43 (.mv (.t 5)), oo 44 (.bin .gtr (.t 43) (ci 1000))]
def alr := rg aen [1, 2, 5, 6, 44]
@[go_sem] theorem r_ak_7_u : Gr X K s alr aen [1, 2, 5, 6, 44] := go_region _ _
@[go_sem] def aem : Ops := [
oo 4 (.asg (ci 1000))]
def alq := rg aem [4]
@[go_sem] theorem r_ak_8_u : Gr X K s alq aem [4] := go_region _ _
@[go_sem] def ael : Ops := [
oo 31 (.mv (.t 6)), oo 32 (.bin .add (.t 31) (ci 1)), oo 6 (.asg (.t 32))]
def alp := rg ael [1, 2, 5, 6]
@[go_sem] theorem r_ak_9_u : Gr X K s alp ael [1, 2, 5, 6] := go_region _ _
def aaw : ICode := (.seq (.seq alt (.cond (.t 30) .skip (.exit 0))) (.seq (.block 1 (.seq als (.seq alr (.cond (.t 44) (.seq alq .ret) .skip)))) alp))
@[go_sem] theorem b_ak_10_u : Gn X K s aaw (.seq (.seq alt (.cond (.t 30) .skip (.exit 0))) (.seq (.block 1 (.seq als (.seq alr (.cond (.t 44) (.seq alq .ret) .skip)))) alp)) := rfl
@[go_sem] def re : Ops := [
oo 45 (.mv (.t 5)), oo 4 (.asg (.t 45))]
def ym := rg re [4]
@[go_sem] theorem r_ak_11_u : Gr X K s ym re [4] := go_region _ _
def c_ak : ICode := (.seq r_ak_0 (.seq r_ak_1 (.cond (.t 20) (.seq r_ak_2 .ret) (.seq r_ak_3 (.seq (.seq r_ak_4 (.block 0 (.loop aaw))) (.seq ym .ret))))))
def i_ak : IFunc := ⟨2, [.t 4], c_ak⟩
def a_ak : Advice := ⟨[], [(10, [4]), (6, [1, 2, 5, 6]), (9, [4]), (8, [1, 2, 5, 6, 44]), (7, [1, 2, 5, 6]), (5, [1, 2, 5, 6, 30]), (4, [1, 2, 5, 6]), (3, [1, 2, 5]), (2, [4]), (1, [1, 2, 20]), (0, [1, 2])], [], [], [], []⟩
/-! ingot/ingotlaw14.Weight -/
@[go_sem] def ab8 : Ops := [
oo 1 (.box 5 (.t 0)), oo 2 (.asg (ci 0))]
def r_bb_0 := rg ab8 [1]
@[go_sem] theorem r_bb_0_u : Gr X K s r_bb_0 ab8 [1] := go_region _ _
@[go_sem] def ab7 : Ops := [
oo 3 (.load (some 5) (.t 1)), oo 4 (.call false n_ak [(.t 3), (ci 1)]), oo 2 (.asg (.t 4))]
def r_bb_1 := rg ab7 [2]
@[go_sem] theorem r_bb_1_u : Gr X K s r_bb_1 ab7 [2] := go_region _ _
def c_bb : ICode := (.seq r_bb_0 (.seq r_bb_1 .ret))
def i_bb : IFunc := ⟨1, [.t 2], c_bb⟩
def a_bb : Advice := ⟨[], [(1, [2]), (0, [1])], [], [], [], []⟩
/-! ingot/ingotlaw14.Few -/
@[go_sem] def abn : Ops := [
oo 1 (.box 5 (.t 0)), oo 2 (.asg (.c (.bool false)))]
def r_bo_0 := rg abn [1]
@[go_sem] theorem r_bo_0_u : Gr X K s r_bo_0 abn [1] := go_region _ _
@[go_sem] def abm : Ops := [
oo 3 (.load (some 5) (.t 1)), oo 4 (.call false n_bb [(.t 3)]), oo 5 (.bin .leq (.t 4) (ci 400)), oo 2 (.asg (.t 5))]
def r_bo_1 := rg abm [2]
@[go_sem] theorem r_bo_1_u : Gr X K s r_bo_1 abm [2] := go_region _ _
def c_bo : ICode := (.seq r_bo_0 (.seq r_bo_1 .ret))
def i_bo : IFunc := ⟨1, [.t 2], c_bo⟩
def a_bo : Advice := ⟨[], [(1, [2]), (0, [1])], [], [], [], []⟩
/-! ingot/ingotref13.own -/
@[go_sem] def ahf : Ops := [
oo 1 (.box 6 (.t 0)), oo 2 (.asg (ci 0))]
def r_aa_0 := rg ahf [1]
@[go_sem] theorem r_aa_0_u : Gr X K s r_aa_0 ahf [1] := go_region _ _
@[go_sem] def ahe : Ops := [
oo 8 (.fieldA 0 (.t 1)), oo 9 (.load none (.t 8)), oo 10 (.bin .eql (.t 9) (ci 5)), oo 11 (.mv (.t 10)), og 12 11 false (.fieldA 0 (.t 1)), og 13 11 false (.load none (.t 12)), og 14 11 false (.bin .eql (.t 13) (ci 6)), oo 15 (.pick (.t 11) (.c (.bool true)) (.t 14))]
def r_aa_1 := rg ahe [1, 15]
@[go_sem] theorem r_aa_1_u : Gr X K s r_aa_1 ahe [1, 15] := go_region _ _
@[go_sem] def ahd : Ops := [
oo 2 (.asg (ci 5))]
def r_aa_2 := rg ahd [2]
@[go_sem] theorem r_aa_2_u : Gr X K s r_aa_2 ahd [2] := go_region _ _
@[go_sem] def ahc : Ops := [
oo 16 (.fieldA 0 (.t 1)), oo 17 (.load none (.t 16)), oo 18 (.bin .lss (.t 17) (ci 0)), oo 19 (.mv (.t 18)), og 20 19 false (.fieldA 0 (.t 1)), og 21 19 false (.load none (.t 20)), og 22 19 false (.bin .gtr (.t 21) (ci 17)), oo 23 (.pick (.t 19) (.c (.bool true)) (.t 22))]
def r_aa_3 := rg ahc [1, 23]
@[go_sem] theorem r_aa_3_u : Gr X K s r_aa_3 ahc [1, 23] := go_region _ _
@[go_sem] def ahb : Ops := [
oo 2 (.asg (ci 1))]
def r_aa_4 := rg ahb [2]
@[go_sem] theorem r_aa_4_u : Gr X K s r_aa_4 ahb [2] := go_region _ _
@[go_sem] def aha : Ops := [
oo 24 (.fieldA 2 (.t 1)), oo 25 (.load none (.t 24)), oo 26 (.len false (.t 25)), oo 3 (.asg (.t 26))]
def r_aa_5 := rg aha [1, 3]
@[go_sem] theorem r_aa_5_u : Gr X K s r_aa_5 aha [1, 3] := go_region _ _
@[go_sem] def ag9 : Ops := [
oo 27 (.mv (.t 3)), oo 28 (.bin .eql (.t 27) (ci 0)), oo 4 (.asg (.t 28))]
def r_aa_6 := rg ag9 [1, 3, 4]
@[go_sem] theorem r_aa_6_u : Gr X K s r_aa_6 ag9 [1, 3, 4] := go_region _ _
@[go_sem] def ag8 : Ops := [
oo 29 (.fieldA 0 (.t 1)), oo 30 (.load none (.t 29))]
def r_aa_7 := rg ag8 [1, 3, 4, 30]
@[go_sem] theorem r_aa_7_u : Gr X K s r_aa_7 ag8 [1, 3, 4, 30] := go_region _ _
@[go_sem] def ag7 : Ops := [
oo 32 (.bin .eql (.t 30) (ci 10)), oo 31 (.asg (.t 32))]
def r_aa_8 := rg ag7 [1, 3, 4, 30, 31]
@[go_sem] theorem r_aa_8_u : Gr X K s r_aa_8 ag7 [1, 3, 4, 30, 31] := go_region _ _
@[go_sem] def ag6 : Ops := [
oo 33 (.mv (.t 3)), oo 34 (.bin .eql (.t 33) (ci 1)), oo 4 (.asg (.t 34))]
def r_aa_9 := rg ag6 [1, 4]
@[go_sem] theorem r_aa_9_u : Gr X K s r_aa_9 ag6 [1, 4] := go_region _ _
@[go_sem] def wb : Ops := [
oo 36 (.bin .eql (.t 30) (ci 11)), oo 35 (.asg (.t 36))]
def an5 := rg wb [1, 3, 4, 30, 35]
@[go_sem] theorem r_aa_10_u : Gr X K s an5 wb [1, 3, 4, 30, 35] := go_region _ _
@[go_sem] def wa : Ops := [
oo 37 (.mv (.t 3)), oo 38 (.bin .eql (.t 37) (ci 2)), oo 4 (.asg (.t 38))]
def an4 := rg wa [1, 4]
@[go_sem] theorem r_aa_11_u : Gr X K s an4 wa [1, 4] := go_region _ _
@[go_sem] def v8 : Ops := [
oo 40 (.bin .eql (.t 30) (ci 12)), oo 39 (.asg (.t 40))]
def an3 := rg v8 [1, 3, 4, 30, 39]
@[go_sem] theorem r_aa_12_u : Gr X K s an3 v8 [1, 3, 4, 30, 39] := go_region _ _
@[go_sem] def v7 : Ops := [
oo 41 (.mv (.t 3)), oo 42 (.fieldA 1 (.t 1)), oo 43 (.load none (.t 42)), oo 44 (.len false (.t 43)), oo 45 (.bin .eql (.t 41) (.t 44)), oo 4 (.asg (.t 45))]
def an2 := rg v7 [1, 4]
@[go_sem] theorem r_aa_13_u : Gr X K s an2 v7 [1, 4] := go_region _ _
@[go_sem] def v6 : Ops := [
oo 47 (.bin .eql (.t 30) (ci 13)), oo 46 (.asg (.t 47))]
def an1 := rg v6 [1, 3, 4, 46]
@[go_sem] theorem r_aa_14_u : Gr X K s an1 v6 [1, 3, 4, 46] := go_region _ _
@[go_sem] def vz : Ops := [
oo 48 (.mv (.t 3)), oo 49 (.bin .geq (.t 48) (ci 1)), oo 50 (.mv (.t 49)), og 51 50 true (.mv (.t 3)), og 52 50 true (.bin .leq (.t 51) (ci 255)), oo 53 (.pick (.t 50) (.t 52) (.c (.bool false))), oo 4 (.asg (.t 53))]
def an0 := rg vz [1, 4]
@[go_sem] theorem r_aa_15_u : Gr X K s an0 vz [1, 4] := go_region _ _
@[go_sem] def vy : Ops := [
oo 54 (.mv (.t 4)), oo 55 (.un .not (.t 54)), oo 56 (.mv (.t 55)), og 57 56 false (.fieldA 0 (.t 1)), og 58 56 false (.load none (.t 57)), og 59 56 false (.bin .neq (.t 58) (ci 12)), og 60 56 false (.mv (.t 59)), og 61 60 true (.fieldA 1 (.t 1)), og 62 60 true (.load none (.t 61)), og 63 60 true (.len false (.t 62)), og 64 60 true (.bin .gtr (.t 63) (ci 0)), og 65 56 false (.pick (.t 60) (.t 64) (.c (.bool false))), oo 66 (.pick (.t 56) (.c (.bool true)) (.t 65))]
def anz := rg vy [1, 66]
@[go_sem] theorem r_aa_16_u : Gr X K s anz vy [1, 66] := go_region _ _
@[go_sem] def vw : Ops := [
oo 2 (.asg (ci 1))]
def anx := rg vw [2]
@[go_sem] theorem r_aa_17_u : Gr X K s anx vw [2] := go_region _ _
@[go_sem] def vu : Ops := [
oo 5 (.asg (ci 0))]
def anw := rg vu [1, 5]
@[go_sem] theorem r_aa_18_u : Gr X K s anw vu [1, 5] := go_region _ _
@[go_sem] def vr : Ops := [
oo 67 (.mv (.t 5)), oo 68 (.fieldA 1 (.t 1)), oo 69 (.load none (.t 68)), oo 70 (.len false (.t 69)), oo 71 (.bin .lss (.t 67) (.t 70))]
def zt := rg vr [1, 5, 71]
@[go_sem] theorem r_aa_19_u : Gr X K s zt vr [1, 5, 71] := go_region _ _
@[go_sem] def vq : Ops := [
oo 74 (.fieldA 1 (.t 1)), oo 75 (.load none (.t 74)), oo 76 (.mv (.t 5)), oo 77 (.idxA 1 (.t 75) (.t 76)), oo 78 (.load none (.t 77)), oo 79 (.bin .eql (.t 78) (.c (.str []))), oo 80 (.mv (.t 79)), og 81 80 false (.fieldA 1 (.t 1)), og 82 80 false (.load none (.t 81)), og 83 80 false (.mv (.t 5)), og 84 80 false (.idxA 1 (.t 82) (.t 83)), og 85 80 false (.load none (.t 84)), og 86 80 false (.len true (.t 85)), og 87 80 false (.bin .gtr (.t 86) (ci 100)), oo 88 (.pick (.t 80) (.c (.bool true)) (.t 87))]
def zr := rg vq [1, 5, 88]
@[go_sem] theorem r_aa_20_u : Gr X K s zr vq [1, 5, 88] := go_region _ _
@[go_sem] def vp : Ops := [
oo 2 (.asg (ci 1))]
def zq := rg vp [2]
@[go_sem] theorem r_aa_21_u : Gr X K s zq vp [2] := go_region _ _
@[go_sem] def vo : Ops := [
oo 6 (.asg (ci 0))]
def zp := rg vo [1, 5, 6]
@[go_sem] theorem r_aa_22_u : Gr X K s zp vo [1, 5, 6] := go_region _ _
@[go_sem] def vn : Ops := [
oo 89 (.mv (.t 6)), oo 90 (.mv (.t 5)), oo 91 (.bin .lss (.t 89) (.t 90))]
def zo := rg vn [1, 5, 6, 91]
@[go_sem] theorem r_aa_23_u : Gr X K s zo vn [1, 5, 6, 91] := go_region _ _
@[go_sem] def vl : Ops := [
oo 94 (.fieldA 1 (.t 1)), oo 95 (.load none (.t 94)), oo 96 (.mv (.t 6)), oo 97 (.idxA 1 (.t 95) (.t 96)), oo 98 (.load none (.t 97)), oo 99 (.fieldA 1 (.t 1)), oo 100 (.load none (.t 99)), oo 101 (.mv (.t 5)), oo 102 (.idxA 1 (.t 100) (.t 101)), oo 103 (.load none (.t 102)), oo 104 (.bin .eql (.t 98) (.t 103))]
def vm : List (Nat × Nat) := [(0, 2), (1, 2), (0, 5), (1, 5), (2, 5), (3, 5), (4, 5), (0, 6), (1, 6), (2, 6), (3, 6), (4, 6), (0, 7), (1, 7), (2, 7), (3, 7), (4, 7), (5, 7), (6, 7), (0, 8), (1, 8), (2, 8), (3, 8), (4, 8), (0, 9), (1, 9), (2, 9), (3, 9), (4, 9)]
def zn : ICode := .region vl vm [1, 5, 6, 104]
@[go_sem] theorem r_aa_24_u : go X (.c zn :: K) s = goRU X [] vm vl [1, 5, 6, 104] K s := go_regionU' _ _ _ _
@[go_sem] def vk : Ops := [
oo 2 (.asg (ci 1))]
def zm := rg vk [2]
@[go_sem] theorem r_aa_25_u : Gr X K s zm vk [2] := go_region _ _
@[go_sem] def vj : Ops := [
oo 92 (.mv (.t 6)), oo 93 (.bin .add (.t 92) (ci 1)), oo 6 (.asg (.t 93))]
def zl := rg vj [1, 5, 6]
@[go_sem] theorem r_aa_26_u : Gr X K s zl vj [1, 5, 6] := go_region _ _
def py : ICode := (.seq (.seq zo (.cond (.t 91) .skip (.exit 3))) (.seq (.block 4 (.seq zn (.cond (.t 104) (.seq zm .ret) .skip))) zl))
@[go_sem] theorem b_aa_27_u : Gn X K s py (.seq (.seq zo (.cond (.t 91) .skip (.exit 3))) (.seq (.block 4 (.seq zn (.cond (.t 104) (.seq zm .ret) .skip))) zl)) := rfl
@[go_sem] def vh : Ops := [
oo 72 (.mv (.t 5)), oo 73 (.bin .add (.t 72) (ci 1)), oo 5 (.asg (.t 73))]
def zk := rg vh [1, 5]
@[go_sem] theorem r_aa_28_u : Gr X K s zk vh [1, 5] := go_region _ _
def aa0 : ICode := (.seq (.seq zt (.cond (.t 71) .skip (.exit 1))) (.seq (.block 2 (.seq (.seq zr (.cond (.t 88) (.seq zq .ret) .skip)) (.seq zp (.block 3 (.loop py))))) zk))
@[go_sem] theorem b_aa_29_u : Gn X K s aa0 (.seq (.seq zt (.cond (.t 71) .skip (.exit 1))) (.seq (.block 2 (.seq (.seq zr (.cond (.t 88) (.seq zq .ret) .skip)) (.seq zp (.block 3 (.loop py))))) zk)) := rfl
@[go_sem] def vg : Ops := [
oo 105 (.fieldA 0 (.t 1)), oo 106 (.load none (.t 105)), oo 107 (.bin .eql (.t 106) (ci 16)), oo 108 (.mv (.t 107)), og 109 108 false (.fieldA 0 (.t 1)), og 110 108 false (.load none (.t 109)), og 111 108 false (.bin .eql (.t 110) (ci 17)), oo 112 (.pick (.t 108) (.c (.bool true)) (.t 111)), oo 7 (.asg (.t 112))]
def anv := rg vg [1, 7]
@[go_sem] theorem r_aa_30_u : Gr X K s anv vg [1, 7] := go_region _ _
@[go_sem] def vf : Ops := [
oo 113 (.mv (.t 7)), oo 114 (.mv (.t 113)), og 115 114 true (.fieldA 3 (.t 1)), og 116 114 true (.load none (.t 115)), og 117 114 true (.bin .lss (.t 116) (ci 1)), og 118 114 true (.mv (.t 117)), og 119 118 false (.fieldA 3 (.t 1)), og 120 118 false (.load none (.t 119)), og 121 118 false (.bin .gtr (.t 120) (ci 4096)), og 122 114 true (.pick (.t 118) (.c (.bool true)) (.t 121)), oo 123 (.pick (.t 114) (.t 122) (.c (.bool false))), oo 124 (.mv (.t 123)), og 125 124 false (.mv (.t 7)), og 126 124 false (.un .not (.t 125)), og 127 124 false (.mv (.t 126)), og 128 127 true (.fieldA 3 (.t 1)), og 129 127 true (.load none (.t 128)), og 130 127 true (.bin .neq (.t 129) (ci 0)), og 131 124 false (.pick (.t 127) (.t 130) (.c (.bool false))), oo 132 (.pick (.t 124) (.c (.bool true)) (.t 131))]
def anu := rg vf [1, 132]
@[go_sem] theorem r_aa_31_u : Gr X K s anu vf [1, 132] := go_region _ _
@[go_sem] def ve : Ops := [
oo 2 (.asg (ci 1))]
def ant := rg ve [2]
@[go_sem] theorem r_aa_32_u : Gr X K s ant ve [2] := go_region _ _
@[go_sem] def vd : Ops := [
oo 133 (.fieldA 0 (.t 1)), oo 134 (.load none (.t 133)), oo 135 (.bin .eql (.t 134) (ci 14))]
def ans := rg vd [1, 135]
@[go_sem] theorem r_aa_33_u : Gr X K s ans vd [1, 135] := go_region _ _
@[go_sem] def u9 : Ops := [
oo 136 (.fieldA 4 (.t 1)), oo 137 (.load none (.t 136)), oo 138 (.bin .lss (.t 137) (ci 1)), oo 139 (.mv (.t 138)), og 140 139 false (.fieldA 4 (.t 1)), og 141 139 false (.load none (.t 140)), og 142 139 false (.bin .gtr (.t 141) (ci 18)), oo 143 (.pick (.t 139) (.c (.bool true)) (.t 142)), oo 144 (.mv (.t 143)), og 145 144 false (.fieldA 5 (.t 1)), og 146 144 false (.load none (.t 145)), og 147 144 false (.bin .lss (.t 146) (ci 0)), oo 148 (.pick (.t 144) (.c (.bool true)) (.t 147)), oo 149 (.mv (.t 148)), og 150 149 false (.fieldA 5 (.t 1)), og 151 149 false (.load none (.t 150)), og 152 149 false (.fieldA 4 (.t 1)), og 153 149 false (.load none (.t 152)), og 154 149 false (.bin .gtr (.t 151) (.t 153)), oo 155 (.pick (.t 149) (.c (.bool true)) (.t 154))]
def anr := rg u9 [155]
@[go_sem] theorem r_aa_34_u : Gr X K s anr u9 [155] := go_region _ _
@[go_sem] def uz : Ops := [
oo 2 (.asg (ci 1))]
def anq := rg uz [2]
@[go_sem] theorem r_aa_35_u : Gr X K s anq uz [2] := go_region _ _
@[go_sem] def ux : Ops := [
oo 156 (.fieldA 4 (.t 1)), oo 157 (.load none (.t 156)), oo 158 (.bin .neq (.t 157) (ci 0)), oo 159 (.mv (.t 158)), og 160 159 false (.fieldA 5 (.t 1)), og 161 159 false (.load none (.t 160)), og 162 159 false (.bin .neq (.t 161) (ci 0)), oo 163 (.pick (.t 159) (.c (.bool true)) (.t 162))]
def anp := rg ux [163]
@[go_sem] theorem r_aa_36_u : Gr X K s anp ux [163] := go_region _ _
@[go_sem] def uw : Ops := [
oo 2 (.asg (ci 1))]
def ano := rg uw [2]
@[go_sem] theorem r_aa_37_u : Gr X K s ano uw [2] := go_region _ _
@[go_sem] def uv : Ops := [
oo 2 (.asg (ci 0))]
def ann := rg uv [2]
@[go_sem] theorem r_aa_38_u : Gr X K s ann uv [2] := go_region _ _
def c_aa : ICode := (.seq r_aa_0 (.seq r_aa_1 (.cond (.t 15) (.seq r_aa_2 .ret) (.seq r_aa_3 (.cond (.t 23) (.seq r_aa_4 .ret) (.seq r_aa_5 (.seq r_aa_6 (.seq (.seq r_aa_7 (.block 0 (.seq r_aa_8 (.cond (.t 31) r_aa_9 (.seq an5 (.cond (.t 35) an4 (.seq an3 (.cond (.t 39) an2 (.seq an1 (.cond (.t 46) an0 .skip)))))))))) (.seq anz (.cond (.t 66) (.seq anx .ret) (.seq (.seq anw (.block 1 (.loop aa0))) (.seq anv (.seq anu (.cond (.t 132) (.seq ant .ret) (.seq (.seq ans (.cond (.t 135) (.seq anr (.cond (.t 155) (.seq anq .ret) .skip)) (.seq anp (.cond (.t 163) (.seq ano .ret) .skip)))) (.seq ann .ret))))))))))))))))
def i_aa : IFunc := ⟨1, [.t 2], c_aa⟩
def a_aa : Advice := ⟨[], [(36, [2]), (33, [2]), (32, [155]), (35, [2]), (34, [163]), (31, [1, 135]), (30, [2]), (29, [1, 132]), (28, [1, 7]), (20, [1, 5]), (25, [1, 5, 6]), (27, [2]), (26, [1, 5, 6, 104]), (24, [1, 5, 6, 91]), (23, [1, 5, 6]), (22, [2]), (21, [1, 5, 88]), (19, [1, 5, 71]), (18, [1, 5]), (17, [2]), (16, [1, 66]), (9, [1, 4]), (11, [1, 4]), (13, [1, 4]), (15, [1, 4]), (14, [1, 3, 4, 46]), (12, [1, 3, 4, 30, 39]), (10, [1, 3, 4, 30, 35]), (8, [1, 3, 4, 30, 31]), (7, [1, 3, 4, 30]), (6, [1, 3, 4]), (5, [1, 3]), (4, [2]), (3, [1, 23]), (2, [2]), (1, [1, 15]), (0, [1])], [], [], [], []⟩
/-! ingot/ingotref13.check -/
@[go_sem] def af8 : Ops := [
oo 3 (.box 6 (.t 0)), oo 6 (.asg (ci 0)), oo 7 (.asg (ci 0))]
def r_af_0 := rg af8 [1, 2, 3]
@[go_sem] theorem r_af_0_u : Gr X K s r_af_0 af8 [1, 2, 3] := go_region _ _
@[go_sem] def af7 : Ops := [
oo 12 (.mv (.t 1)), oo 13 (.bin .gtr (.t 12) (ci 16)), oo 14 (.mv (.t 13)), og 15 14 false (.mv (.t 2)), og 16 14 false (.bin .geq (.t 15) (ci 100)), oo 17 (.pick (.t 14) (.c (.bool true)) (.t 16))]
def r_af_1 := rg af7 [1, 2, 3, 17]
@[go_sem] theorem r_af_1_u : Gr X K s r_af_1 af7 [1, 2, 3, 17] := go_region _ _
@[go_sem] def af6 : Ops := [
oo 18 (.mv (.t 2)), oo 6 (.asg (.t 18)), oo 7 (.asg (ci 4))]
def r_af_2 := rg af6 [6, 7]
@[go_sem] theorem r_af_2_u : Gr X K s r_af_2 af6 [6, 7] := go_region _ _
@[go_sem] def af5 : Ops := [
oo 19 (.load (some 6) (.t 3)), oo 20 (.call false n_aa [(.t 19)]), oo 8 (.asg (.t 20))]
def r_af_3 := rg af5 [1, 2, 3, 8]
@[go_sem] theorem r_af_3_u : Gr X K s r_af_3 af5 [1, 2, 3, 8] := go_region _ _
@[go_sem] def af4 : Ops := [
oo 21 (.mv (.t 8)), oo 22 (.bin .neq (.t 21) (ci 0))]
def r_af_4 := rg af4 [1, 2, 3, 8, 22]
@[go_sem] theorem r_af_4_u : Gr X K s r_af_4 af4 [1, 2, 3, 8, 22] := go_region _ _
@[go_sem] def af3 : Ops := [
oo 23 (.mv (.t 2)), oo 24 (.mv (.t 8)), oo 6 (.asg (.t 23)), oo 7 (.asg (.t 24))]
def r_af_5 := rg af3 [6, 7]
@[go_sem] theorem r_af_5_u : Gr X K s r_af_5 af3 [6, 7] := go_region _ _
@[go_sem] def af2 : Ops := [
oo 25 (.mv (.t 2)), oo 26 (.bin .add (.t 25) (ci 1)), oo 2 (.asg (.t 26))]
def r_af_6 := rg af2 [1, 2, 3]
@[go_sem] theorem r_af_6_u : Gr X K s r_af_6 af2 [1, 2, 3] := go_region _ _
@[go_sem] def af1 : Ops := [
oo 9 (.asg (ci 0))]
def r_af_7 := rg af1 [1, 2, 3, 9]
@[go_sem] theorem r_af_7_u : Gr X K s r_af_7 af1 [1, 2, 3, 9] := go_region _ _
@[go_sem] def af0 : Ops := [
oo 27 (.mv (.t 9)), oo 28 (.fieldA 2 (.t 3)), oo 29 (.load none (.t 28)), oo 30 (.len false (.t 29)), oo 31 (.bin .lss (.t 27) (.t 30))]
def amq := rg af0 [1, 2, 3, 9, 31]
@[go_sem] theorem r_af_8_u : Gr X K s amq af0 [1, 2, 3, 9, 31] := go_region _ _
@[go_sem] def afz : Ops := [
oo 35 (.fieldA 2 (.t 3)), oo 36 (.load none (.t 35)), oo 37 (.mv (.t 9)), oo 38 (.idxA 6 (.t 36) (.t 37)), oo 39 (.load (some 6) (.t 38)), oo 40 (.mv (.t 1)), oo 41 (.bin .add (.t 40) (ci 1)), oo 42 (.mv (.t 2)), oo 43 (.call false n_af [(.t 39), (.t 41), (.t 42)]), oo 34 (.mv (.t 43)), oo 44 (.ext (.t 34) 0), oo 45 (.ext (.t 34) 1), oo 10 (.asg (.t 44)), oo 11 (.asg (.t 45))]
def amp := rg afz [1, 3, 9, 10, 11]
@[go_sem] theorem r_af_9_u : Gr X K s amp afz [1, 3, 9, 10, 11] := go_region _ _
@[go_sem] def ss : Ops := [
oo 46 (.mv (.t 11)), oo 47 (.bin .neq (.t 46) (ci 0))]
def y6 := rg ss [1, 3, 9, 10, 11, 47]
@[go_sem] theorem r_af_10_u : Gr X K s y6 ss [1, 3, 9, 10, 11, 47] := go_region _ _
@[go_sem] def sr : Ops := [
oo 48 (.mv (.t 10)), oo 49 (.mv (.t 11)), oo 6 (.asg (.t 48)), oo 7 (.asg (.t 49))]
def y5 := rg sr [6, 7]
@[go_sem] theorem r_af_11_u : Gr X K s y5 sr [6, 7] := go_region _ _
@[go_sem] def sq : Ops := [
oo 50 (.mv (.t 10)), oo 2 (.asg (.t 50))]
def yz := rg sq [1, 2, 3, 9]
@[go_sem] theorem r_af_12_u : Gr X K s yz sq [1, 2, 3, 9] := go_region _ _
@[go_sem] def sn : Ops := [
oo 32 (.mv (.t 9)), oo 33 (.bin .add (.t 32) (ci 1)), oo 9 (.asg (.t 33))]
def yy := rg sn [1, 2, 3, 9]
@[go_sem] theorem r_af_13_u : Gr X K s yy sn [1, 2, 3, 9] := go_region _ _
def aay : ICode := (.seq (.seq amq (.cond (.t 31) .skip (.exit 0))) (.seq (.block 1 (.seq amp (.seq (.seq y6 (.cond (.t 47) (.seq y5 .ret) .skip)) yz))) yy))
@[go_sem] theorem b_af_14_u : Gn X K s aay (.seq (.seq amq (.cond (.t 31) .skip (.exit 0))) (.seq (.block 1 (.seq amp (.seq (.seq y6 (.cond (.t 47) (.seq y5 .ret) .skip)) yz))) yy)) := rfl
@[go_sem] def sm : Ops := [
oo 51 (.mv (.t 2)), oo 6 (.asg (.t 51)), oo 7 (.asg (ci 0))]
def yw := rg sm [6, 7]
@[go_sem] theorem r_af_15_u : Gr X K s yw sm [6, 7] := go_region _ _
def c_af : ICode := (.seq r_af_0 (.seq r_af_1 (.cond (.t 17) (.seq r_af_2 .ret) (.seq r_af_3 (.seq r_af_4 (.cond (.t 22) (.seq r_af_5 .ret) (.seq r_af_6 (.seq (.seq r_af_7 (.block 0 (.loop aay))) (.seq yw .ret)))))))))
def i_af : IFunc := ⟨3, [.t 6, .t 7], c_af⟩
def a_af : Advice := ⟨[], [(14, [6, 7]), (9, [1, 2, 3, 9]), (13, [1, 2, 3, 9]), (12, [6, 7]), (11, [1, 3, 9, 10, 11, 47]), (10, [1, 3, 9, 10, 11]), (8, [1, 2, 3, 9, 31]), (7, [1, 2, 3, 9]), (6, [1, 2, 3]), (5, [6, 7]), (4, [1, 2, 3, 8, 22]), (3, [1, 2, 3, 8]), (2, [6, 7]), (1, [1, 2, 3, 17]), (0, [1, 2, 3])], [], [], [], []⟩
/-! ingot/ingotref13.Check -/
@[go_sem] def ahk : Ops := [
oo 1 (.box 6 (.t 0)), oo 2 (.asg (ci 0))]
def r_a7_0 := rg ahk [1]
@[go_sem] theorem r_a7_0_u : Gr X K s r_a7_0 ahk [1] := go_region _ _
@[go_sem] def ahj : Ops := [
oo 6 (.load (some 6) (.t 1)), oo 7 (.call false n_af [(.t 6), (ci 1), (ci 0)]), oo 5 (.mv (.t 7)), oo 8 (.ext (.t 5) 0), oo 9 (.ext (.t 5) 1), oo 3 (.asg (.t 8)), oo 4 (.asg (.t 9))]
def r_a7_1 := rg ahj [4]
@[go_sem] theorem r_a7_1_u : Gr X K s r_a7_1 ahj [4] := go_region _ _
@[go_sem] def ahi : Ops := [
oo 10 (.mv (.t 4)), oo 2 (.asg (.t 10))]
def r_a7_2 := rg ahi [2]
@[go_sem] theorem r_a7_2_u : Gr X K s r_a7_2 ahi [2] := go_region _ _
def c_a7 : ICode := (.seq r_a7_0 (.seq r_a7_1 (.seq r_a7_2 .ret)))
def i_a7 : IFunc := ⟨1, [.t 2], c_a7⟩
def a_a7 : Advice := ⟨[], [(2, [2]), (1, [4]), (0, [1])], [], [], [], []⟩
/-! ingot/ingotlaw13.few -/
@[go_sem] def afy : Ops := [
oo 2 (.box 6 (.t 0)), oo 4 (.asg (ci 0))]
def r_ag_0 := rg afy [1, 2]
@[go_sem] theorem r_ag_0_u : Gr X K s r_ag_0 afy [1, 2] := go_region _ _
@[go_sem] def afx : Ops := [
oo 8 (.mv (.t 1)), oo 9 (.bin .gtr (.t 8) (ci 20)), oo 10 (.mv (.t 9)), og 11 10 false (.fieldA 2 (.t 2)), og 12 10 false (.load none (.t 11)), og 13 10 false (.len false (.t 12)), og 14 10 false (.bin .gtr (.t 13) (ci 300)), oo 15 (.pick (.t 10) (.c (.bool true)) (.t 14)), oo 16 (.mv (.t 15)), og 17 16 false (.fieldA 1 (.t 2)), og 18 16 false (.load none (.t 17)), og 19 16 false (.len false (.t 18)), og 20 16 false (.bin .gtr (.t 19) (ci 300)), oo 21 (.pick (.t 16) (.c (.bool true)) (.t 20))]
def r_ag_1 := rg afx [1, 2, 21]
@[go_sem] theorem r_ag_1_u : Gr X K s r_ag_1 afx [1, 2, 21] := go_region _ _
@[go_sem] def afw : Ops := [
oo 4 (.asg (ci 1000))]
def r_ag_2 := rg afw [4]
@[go_sem] theorem r_ag_2_u : Gr X K s r_ag_2 afw [4] := go_region _ _
@[go_sem] def afv : Ops := [
oo 5 (.asg (ci 1))]
def r_ag_3 := rg afv [1, 2, 5]
@[go_sem] theorem r_ag_3_u : Gr X K s r_ag_3 afv [1, 2, 5] := go_region _ _
@[go_sem] def afu : Ops := [
oo 6 (.asg (ci 0))]
def r_ag_4 := rg afu [1, 2, 5, 6]
@[go_sem] theorem r_ag_4_u : Gr X K s r_ag_4 afu [1, 2, 5, 6] := go_region _ _
@[go_sem] def aft : Ops := [
oo 22 (.mv (.t 6)), oo 23 (.fieldA 1 (.t 2)), oo 24 (.load none (.t 23)), oo 25 (.len false (.t 24)), oo 26 (.bin .lss (.t 22) (.t 25))]
def amn := rg aft [1, 2, 5, 6, 26]
@[go_sem] theorem r_ag_5_u : Gr X K s amn aft [1, 2, 5, 6, 26] := go_region _ _
@[go_sem] def afs : Ops := [
oo 29 (.fieldA 1 (.t 2)), oo 30 (.load none (.t 29)), oo 31 (.mv (.t 6)), oo 32 (.idxA 1 (.t 30) (.t 31)), oo 33 (.load none (.t 32)), oo 34 (.len true (.t 33)), oo 35 (.bin .gtr (.t 34) (ci 200))]
def amm := rg afs [1, 2, 5, 6, 35]
@[go_sem] theorem r_ag_6_u : Gr X K s amm afs [1, 2, 5, 6, 35] := go_region _ _
@[go_sem] def afr : Ops := [
oo 4 (.asg (ci 1000))]
def aml := rg afr [4]
@[go_sem] theorem r_ag_7_u : Gr X K s aml afr [4] := go_region _ _
@[go_sem] def afq : Ops := [
oo 27 (.mv (.t 6)), oo 28 (.bin .add (.t 27) (ci 1)), oo 6 (.asg (.t 28))]
def amk := rg afq [1, 2, 5, 6]
@[go_sem] theorem r_ag_8_u : Gr X K s amk afq [1, 2, 5, 6] := go_region _ _
def ap0 : ICode := (.seq (.seq amn (.cond (.t 26) .skip (.exit 0))) (.seq (.block 1 (.seq amm (.cond (.t 35) (.seq aml .ret) .skip))) amk))
@[go_sem] theorem b_ag_9_u : Gn X K s ap0 (.seq (.seq amn (.cond (.t 26) .skip (.exit 0))) (.seq (.block 1 (.seq amm (.cond (.t 35) (.seq aml .ret) .skip))) amk)) := rfl
@[go_sem] def sk : Ops := [
oo 7 (.asg (ci 0))]
def amo := rg sk [1, 2, 5, 7]
@[go_sem] theorem r_ag_10_u : Gr X K s amo sk [1, 2, 5, 7] := go_region _ _
@[go_sem] def sj : Ops := [
oo 36 (.mv (.t 7)), oo 37 (.fieldA 2 (.t 2)), oo 38 (.load none (.t 37)), oo 39 (.len false (.t 38)), oo 40 (.bin .lss (.t 36) (.t 39))]
def yu := rg sj [1, 2, 5, 7, 40]
@[go_sem] theorem r_ag_11_u : Gr X K s yu sj [1, 2, 5, 7, 40] := go_region _ _
@[go_sem] def si : Ops := [
oo 43 (.mv (.t 5)), oo 44 (.fieldA 2 (.t 2)), oo 45 (.load none (.t 44)), oo 46 (.mv (.t 7)), oo 47 (.idxA 6 (.t 45) (.t 46)), oo 48 (.load (some 6) (.t 47)), oo 49 (.mv (.t 1)), oo 50 (.bin .add (.t 49) (ci 1)), oo 51 (.call false n_ag [(.t 48), (.t 50)]), oo 52 (.bin .add (.t 43) (.t 51)), oo 5 (.asg (.t 52))]
def yt := rg si [1, 2, 5, 7]
@[go_sem] theorem r_ag_12_u : Gr X K s yt si [1, 2, 5, 7] := go_region _ _
@[go_sem] def sg : Ops := [
oo 53 (.mv (.t 5)), oo 54 (.bin .gtr (.t 53) (ci 1000))]
def yr := rg sg [1, 2, 5, 7, 54]
@[go_sem] theorem r_ag_13_u : Gr X K s yr sg [1, 2, 5, 7, 54] := go_region _ _
@[go_sem] def sf : Ops := [
oo 4 (.asg (ci 1000))]
def yp := rg sf [4]
@[go_sem] theorem r_ag_14_u : Gr X K s yp sf [4] := go_region _ _
@[go_sem] def se : Ops := [
oo 41 (.mv (.t 7)), oo 42 (.bin .add (.t 41) (ci 1)), oo 7 (.asg (.t 42))]
def yo := rg se [1, 2, 5, 7]
@[go_sem] theorem r_ag_15_u : Gr X K s yo se [1, 2, 5, 7] := go_region _ _
def aax : ICode := (.seq (.seq yu (.cond (.t 40) .skip (.exit 2))) (.seq (.block 3 (.seq yt (.seq yr (.cond (.t 54) (.seq yp .ret) .skip)))) yo))
@[go_sem] theorem b_ag_16_u : Gn X K s aax (.seq (.seq yu (.cond (.t 40) .skip (.exit 2))) (.seq (.block 3 (.seq yt (.seq yr (.cond (.t 54) (.seq yp .ret) .skip)))) yo)) := rfl
@[go_sem] def sd : Ops := [
oo 55 (.mv (.t 5)), oo 4 (.asg (.t 55))]
def yn := rg sd [4]
@[go_sem] theorem r_ag_17_u : Gr X K s yn sd [4] := go_region _ _
def c_ag : ICode := (.seq r_ag_0 (.seq r_ag_1 (.cond (.t 21) (.seq r_ag_2 .ret) (.seq r_ag_3 (.seq (.seq r_ag_4 (.block 0 (.loop ap0))) (.seq (.seq amo (.block 2 (.loop aax))) (.seq yn .ret)))))))
def i_ag : IFunc := ⟨2, [.t 4], c_ag⟩
def a_ag : Advice := ⟨[], [(15, [4]), (11, [1, 2, 5, 7]), (14, [4]), (13, [1, 2, 5, 7, 54]), (12, [1, 2, 5, 7]), (10, [1, 2, 5, 7, 40]), (9, [1, 2, 5, 7]), (6, [1, 2, 5, 6]), (8, [4]), (7, [1, 2, 5, 6, 35]), (5, [1, 2, 5, 6, 26]), (4, [1, 2, 5, 6]), (3, [1, 2, 5]), (2, [4]), (1, [1, 2, 21]), (0, [1, 2])], [], [], [], []⟩
/-! ingot/ingotlaw13.Few -/
@[go_sem] def aby : Ops := [
oo 1 (.box 6 (.t 0)), oo 2 (.asg (.c (.bool false)))]
def r_bh_0 := rg aby [1]
@[go_sem] theorem r_bh_0_u : Gr X K s r_bh_0 aby [1] := go_region _ _
@[go_sem] def abx : Ops := [
oo 4 (.load (some 6) (.t 1)), oo 5 (.call false n_ag [(.t 4), (ci 1)]), oo 3 (.asg (.t 5))]
def r_bh_1 := rg abx [3]
@[go_sem] theorem r_bh_1_u : Gr X K s r_bh_1 abx [3] := go_region _ _
@[go_sem] def abw : Ops := [
oo 6 (.mv (.t 3)), oo 7 (.bin .leq (.t 6) (ci 150)), oo 2 (.asg (.t 7))]
def r_bh_2 := rg abw [2]
@[go_sem] theorem r_bh_2_u : Gr X K s r_bh_2 abw [2] := go_region _ _
def c_bh : ICode := (.seq r_bh_0 (.seq r_bh_1 (.seq r_bh_2 .ret)))
def i_bh : IFunc := ⟨1, [.t 2], c_bh⟩
def a_bh : Advice := ⟨[], [(2, [2]), (1, [3]), (0, [1])], [], [], [], []⟩
/-! ingot/ingotlaw14.Right -/
@[go_sem] def abv : Ops := [
oo 1 (.box 6 (.t 0)), oo 2 (.asg (.c (.bool false)))]
def r_bi_0 := rg abv [1]
@[go_sem] theorem r_bi_0_u : Gr X K s r_bi_0 abv [1] := go_region _ _
@[go_sem] def abu : Ops := [
oo 3 (.load (some 6) (.t 1)), oo 4 (.call false n_bh [(.t 3)]), oo 5 (.mv (.t 4)), og 6 5 true (.load (some 6) (.t 1)), og 7 5 true (.call false n_a7 [(.t 6)]), og 8 5 true (.bin .eql (.t 7) (ci 0)), oo 9 (.pick (.t 5) (.t 8) (.c (.bool false))), oo 2 (.asg (.t 9))]
def r_bi_1 := rg abu [2]
@[go_sem] theorem r_bi_1_u : Gr X K s r_bi_1 abu [2] := go_region _ _
def c_bi : ICode := (.seq r_bi_0 (.seq r_bi_1 .ret))
def i_bi : IFunc := ⟨1, [.t 2], c_bi⟩
def a_bi : Advice := ⟨[], [(1, [2]), (0, [1])], [], [], [], []⟩
/-! ingot/value.project -/
@[go_sem] def aek : Ops := [
oo 6 (.box 5 (.t 2)), oo 8 (.alloc [(.bool false), (.int .i64 0), (.int .i64 0), .nilS, .nilS])]
def r_al_0 := rg aek [0, 1, 3, 6, 8]
@[go_sem] theorem r_al_0_u : Gr X K s r_al_0 aek [0, 1, 3, 6, 8] := go_region _ _
@[go_sem] def aej : Ops := [
oo 12 (.fieldA 0 (.t 6)), oo 13 (.load none (.t 12)), oo 14 (.mv (.t 13)), og 15 14 false (.mv (.t 0)), og 16 14 false (.mv (.t 3)), og 17 14 false (.idxA 8 (.t 15) (.t 16)), og 18 14 false (.fieldA 0 (.t 17)), og 19 14 false (.load none (.t 18)), og 20 14 false (.bin .neq (.t 19) (ci 12)), oo 21 (.pick (.t 14) (.c (.bool true)) (.t 20))]
def r_al_1 := rg aej [0, 1, 3, 6, 8, 21]
@[go_sem] theorem r_al_1_u : Gr X K s r_al_1 aej [0, 1, 3, 6, 8, 21] := go_region _ _
@[go_sem] def aei : Ops := [
oo 22 (.load (some 5) (.t 6)), oo 23 (.call false n_av [(.t 22)]), ow (.store 5 (.t 8) (.t 23))]
def r_al_2 := rg aei [8]
@[go_sem] theorem r_al_2_u : Gr X K s r_al_2 aei [8] := go_region _ _
@[go_sem] def aeh : Ops := [
oo 24 (.load (some 5) (.t 6)), oo 9 (.alloc [(.bool false), (.int .i64 0), (.int .i64 0), .nilS, .nilS]), ow (.store 5 (.t 9) (.t 24))]
def r_al_3 := rg aeh [0, 1, 3, 6, 8, 9]
@[go_sem] theorem r_al_3_u : Gr X K s r_al_3 aeh [0, 1, 3, 6, 8, 9] := go_region _ _
@[go_sem] def aeg : Ops := [
oo 25 (.fieldA 3 (.t 9)), ow (.store 1 (.t 25) (.c .nilS)), oo 26 (.fieldA 4 (.t 9)), ow (.store 1 (.t 26) (.c .nilS))]
def r_al_4 := rg aeg [0, 1, 3, 6, 8, 9]
@[go_sem] theorem r_al_4_u : Gr X K s r_al_4 aeg [0, 1, 3, 6, 8, 9] := go_region _ _
@[go_sem] def aef : Ops := [
oo 27 (.mv (.t 0)), oo 28 (.mv (.t 3)), oo 29 (.idxA 8 (.t 27) (.t 28)), oo 30 (.fieldA 1 (.t 29)), oo 31 (.load none (.t 30)), oo 32 (.len false (.t 31)), oo 33 (.mv (ci 0))]
def r_al_5 := rg aef [0, 1, 6, 8, 9, 31, 32, 33]
@[go_sem] theorem r_al_5_u : Gr X K s r_al_5 aef [0, 1, 6, 8, 9, 31, 32, 33] := go_region _ _
@[go_sem] def aee : Ops := [
oo 34 (.bin .lss (.t 33) (.t 32))]
def alm := rg aee [0, 1, 6, 8, 9, 31, 32, 33, 34]
@[go_sem] theorem r_al_6_u : Gr X K s alm aee [0, 1, 6, 8, 9, 31, 32, 33, 34] := go_region _ _
@[go_sem] def aed : Ops := [
oo 35 (.mv (.t 33)), oo 36 (.idxA 1 (.t 31) (.t 33)), oo 37 (.load none (.t 36)), oo 10 (.asg (.t 35)), oo 11 (.asg (.t 37))]
def alk := rg aed [0, 1, 6, 8, 9, 10, 11, 31, 32, 33]
@[go_sem] theorem r_al_7_u : Gr X K s alk aed [0, 1, 6, 8, 9, 10, 11, 31, 32, 33] := go_region _ _
@[go_sem] def aec : Ops := [
oo 38 (.mv (.t 1)), oo 39 (.mv (.t 11)), oo 40 (.idxA 1 (.t 38) (.t 39)), oo 41 (.load none (.t 40)), oo 42 (.mv (.t 41)), og 43 42 true (.mv (.t 10)), og 44 42 true (.fieldA 4 (.t 6)), og 45 42 true (.load none (.t 44)), og 46 42 true (.len false (.t 45)), og 47 42 true (.bin .lss (.t 43) (.t 46)), oo 48 (.pick (.t 42) (.t 47) (.c (.bool false)))]
def alj := rg aec [0, 1, 6, 8, 9, 10, 11, 31, 32, 33, 48]
@[go_sem] theorem r_al_8_u : Gr X K s alj aec [0, 1, 6, 8, 9, 10, 11, 31, 32, 33, 48] := go_region _ _
@[go_sem] def aea : Ops := [
oo 49 (.fieldA 4 (.t 9)), oo 50 (.load none (.t 49)), oo 51 (.mv (.t 0)), oo 52 (.mv (.t 1)), oo 53 (.fieldA 4 (.t 6)), oo 54 (.load none (.t 53)), oo 55 (.mv (.t 10)), oo 56 (.idxA 5 (.t 54) (.t 55)), oo 57 (.load (some 5) (.t 56)), oo 58 (.mv (.t 11)), oo 59 (.call false n_al [(.t 51), (.t 52), (.t 57), (.t 58)]), oo 60 (.lit false 5 1 (.agg [(.bool false), (.int .i64 0), (.int .i64 0), (.sl []), (.sl [])]) [(0, (.t 59))]), oo 61 (.append 5 72 (.t 50) (.t 60)), oo 62 (.fieldA 4 (.t 9)), ow (.store 1 (.t 62) (.t 61))]
def aeb : List (Nat × Nat) := [(0, 2), (1, 2), (0, 3), (1, 3), (2, 3), (0, 4), (1, 4), (2, 4), (3, 4), (0, 5), (1, 5), (2, 5), (3, 5), (0, 6), (1, 6), (2, 6), (3, 6), (4, 6), (5, 6), (0, 7), (1, 7), (2, 7), (3, 7), (0, 8), (1, 8), (2, 8), (3, 8), (0, 9), (1, 9), (2, 9), (3, 9), (4, 9), (5, 9), (6, 9), (7, 9), (8, 9), (0, 10), (1, 10), (0, 11), (1, 11)]
def ali : ICode := .region aea aeb [0, 1, 6, 8, 9, 31, 32, 33]
@[go_sem] theorem r_al_9_u : go X (.c ali :: K) s = goRU X [] aeb aea [0, 1, 6, 8, 9, 31, 32, 33] K s := go_regionU' _ _ _ _
@[go_sem] def rb : Ops := [
oo 63 (.bin .add (.t 33) (ci 1)), oo 33 (.mv (.t 63))]
def yl := rg rb [0, 1, 6, 8, 9, 31, 32, 33]
@[go_sem] theorem r_al_10_u : Gr X K s yl rb [0, 1, 6, 8, 9, 31, 32, 33] := go_region _ _
def apx : ICode := (.seq alm (.seq (.cond (.t 34) .skip (.exit 0)) (.seq (.block 1 (.seq alk (.seq alj (.cond (.t 48) ali .skip)))) yl)))
@[go_sem] theorem b_al_11_u : Gn X K s apx (.seq alm (.seq (.cond (.t 34) .skip (.exit 0)) (.seq (.block 1 (.seq alk (.seq alj (.cond (.t 48) ali .skip)))) yl))) := rfl
@[go_sem] def q9 : Ops := [
oo 64 (.fieldA 4 (.t 9)), oo 65 (.load none (.t 64)), oo 66 (.call true n_bq [(.t 65)]), oo 67 (.fieldA 4 (.t 9)), ow (.store 1 (.t 67) (.t 66))]
def alo := rg q9 [8, 9]
@[go_sem] theorem r_al_12_u : Gr X K s alo q9 [8, 9] := go_region _ _
@[go_sem] def q8 : Ops := [
oo 68 (.load (some 5) (.t 9)), ow (.store 5 (.t 8) (.t 68))]
def aln := rg q8 [8]
@[go_sem] theorem r_al_13_u : Gr X K s aln q8 [8] := go_region _ _
def c_al : ICode := (.seq r_al_0 (.seq r_al_1 (.cond (.t 21) (.seq r_al_2 .ret) (.seq r_al_3 (.seq r_al_4 (.seq (.seq r_al_5 (.block 0 (.loop apx))) (.seq alo (.seq aln .ret))))))))
def i_al : IFunc := ⟨4, [.cell 8 (some 5)], c_al⟩
def a_al : Advice := ⟨[61, 66], [(12, [8]), (11, [8, 9]), (10, [0, 1, 6, 8, 9, 31, 32, 33]), (9, [0, 1, 6, 8, 9, 31, 32, 33]), (8, [0, 1, 6, 8, 9, 10, 11, 31, 32, 33, 48]), (7, [0, 1, 6, 8, 9, 10, 11, 31, 32, 33]), (6, [0, 1, 6, 8, 9, 31, 32, 33, 34]), (5, [0, 1, 6, 8, 9, 31, 32, 33]), (4, [0, 1, 3, 6, 8, 9]), (3, [0, 1, 3, 6, 8, 9]), (2, [8]), (1, [0, 1, 3, 6, 8, 21]), (0, [0, 1, 3, 6, 8])], [], [], [], []⟩
/-! slices.Clone[[]byte,byte] -/
@[go_sem] def acl : Ops := [
oo 2 (.asg (.c .nilS))]
def r_ax_0 := rg acl [0]
@[go_sem] theorem r_ax_0_u : Gr X K s r_ax_0 acl [0] := go_region _ _
@[go_sem] def ack : Ops := [
oo 3 (.mv (.t 0)), oo 4 (.isNil false (.t 3))]
def r_ax_1 := rg ack [0, 4]
@[go_sem] theorem r_ax_1_u : Gr X K s r_ax_1 ack [0, 4] := go_region _ _
@[go_sem] def acj : Ops := [
oo 2 (.asg (.c .nilS))]
def r_ax_2 := rg acj [2]
@[go_sem] theorem r_ax_2_u : Gr X K s r_ax_2 acj [2] := go_region _ _
@[go_sem] def aci : Ops := [
oo 5 (.lit true 1 0 (.int .u8 0) []), oo 6 (.mv (.t 0)), oo 7 (.append 1 1 (.t 5) (.t 6)), oo 2 (.asg (.t 7))]
def r_ax_3 := rg aci [2]
@[go_sem] theorem r_ax_3_u : Gr X K s r_ax_3 aci [2] := go_region _ _
def c_ax : ICode := (.seq r_ax_0 (.seq r_ax_1 (.cond (.t 4) (.seq r_ax_2 .ret) (.seq r_ax_3 .ret))))
def i_ax : IFunc := ⟨1, [.t 2], c_ax⟩
def a_ax : Advice := ⟨[5], [(3, [2]), (2, [2]), (1, [0, 4]), (0, [0])], [], [], [], []⟩
/-! ingot/value.Clone -/
@[go_sem] def ac4 : Ops := [
oo 1 (.box 5 (.t 0)), oo 2 (.alloc [(.bool false), (.int .i64 0), (.int .i64 0), .nilS, .nilS])]
def r_av_0 := rg ac4 [1, 2]
@[go_sem] theorem r_av_0_u : Gr X K s r_av_0 ac4 [1, 2] := go_region _ _
@[go_sem] def ac3 : Ops := [
oo 6 (.fieldA 3 (.t 1)), oo 7 (.load none (.t 6)), oo 8 (.call false n_ax [(.t 7)]), oo 9 (.call false n_bx [(.t 8)]), oo 10 (.fieldA 3 (.t 1)), ow (.store 1 (.t 10) (.t 9))]
def r_av_1 := rg ac3 [1, 2]
@[go_sem] theorem r_av_1_u : Gr X K s r_av_1 ac3 [1, 2] := go_region _ _
@[go_sem] def ac2 : Ops := [
oo 3 (.asg (.c .nilS))]
def r_av_2 := rg ac2 [1, 2, 3]
@[go_sem] theorem r_av_2_u : Gr X K s r_av_2 ac2 [1, 2, 3] := go_region _ _
@[go_sem] def ac1 : Ops := [
oo 11 (.fieldA 4 (.t 1)), oo 12 (.load none (.t 11)), oo 13 (.len false (.t 12)), oo 14 (.mv (ci 0))]
def r_av_3 := rg ac1 [1, 2, 3, 12, 13, 14]
@[go_sem] theorem r_av_3_u : Gr X K s r_av_3 ac1 [1, 2, 3, 12, 13, 14] := go_region _ _
@[go_sem] def ac0 : Ops := [
oo 15 (.bin .lss (.t 14) (.t 13))]
def ak0 := rg ac0 [1, 2, 3, 12, 13, 14, 15]
@[go_sem] theorem r_av_4_u : Gr X K s ak0 ac0 [1, 2, 3, 12, 13, 14, 15] := go_region _ _
@[go_sem] def acz : Ops := [
oo 16 (.idxA 5 (.t 12) (.t 14)), oo 17 (.load (some 5) (.t 16)), oo 5 (.alloc [(.bool false), (.int .i64 0), (.int .i64 0), .nilS, .nilS]), ow (.store 5 (.t 5) (.t 17))]
def akz := rg acz [1, 2, 3, 5, 12, 13, 14]
@[go_sem] theorem r_av_5_u : Gr X K s akz acz [1, 2, 3, 5, 12, 13, 14] := go_region _ _
@[go_sem] def acy : Ops := [
oo 18 (.mv (.t 3)), oo 19 (.load (some 5) (.t 5)), oo 20 (.call false n_av [(.t 19)]), oo 21 (.lit false 5 1 (.agg [(.bool false), (.int .i64 0), (.int .i64 0), (.sl []), (.sl [])]) [(0, (.t 20))]), oo 22 (.append 5 72 (.t 18) (.t 21)), oo 3 (.asg (.t 22))]
def aky := rg acy [1, 2, 3, 12, 13, 14]
@[go_sem] theorem r_av_6_u : Gr X K s aky acy [1, 2, 3, 12, 13, 14] := go_region _ _
@[go_sem] def acx : Ops := [
oo 23 (.bin .add (.t 14) (ci 1)), oo 14 (.mv (.t 23))]
def akx := rg acx [1, 2, 3, 12, 13, 14]
@[go_sem] theorem r_av_7_u : Gr X K s akx acx [1, 2, 3, 12, 13, 14] := go_region _ _
def aib : ICode := (.seq ak0 (.seq (.cond (.t 15) .skip (.exit 0)) (.seq (.block 1 (.seq (.seq (.free 5) akz) aky)) akx)))
@[go_sem] theorem b_av_8_u : Gn X K s aib (.seq ak0 (.seq (.cond (.t 15) .skip (.exit 0)) (.seq (.block 1 (.seq (.seq (.free 5) akz) aky)) akx))) := rfl
@[go_sem] def acv : Ops := [
oo 24 (.mv (.t 3)), oo 25 (.call false n_bq [(.t 24)]), oo 26 (.fieldA 4 (.t 1)), ow (.store 1 (.t 26) (.t 25))]
def acw := rg acv [1, 2]
@[go_sem] theorem r_av_9_u : Gr X K s acw acv [1, 2] := go_region _ _
@[go_sem] def qs : Ops := [
oo 27 (.load (some 5) (.t 1)), ow (.store 5 (.t 2) (.t 27))]
def pd := rg qs [2]
@[go_sem] theorem r_av_10_u : Gr X K s pd qs [2] := go_region _ _
def c_av : ICode := (.seq r_av_0 (.seq r_av_1 (.seq r_av_2 (.seq (.seq r_av_3 (.block 0 (.loop aib))) (.seq acw (.seq pd .ret))))))
def i_av : IFunc := ⟨1, [.cell 2 (some 5)], c_av⟩
def a_av : Advice := ⟨[22], [(9, [2]), (8, [1, 2]), (7, [1, 2, 3, 12, 13, 14]), (6, [1, 2, 3, 12, 13, 14]), (5, [1, 2, 3, 5, 12, 13, 14]), (4, [1, 2, 3, 12, 13, 14, 15]), (3, [1, 2, 3, 12, 13, 14]), (2, [1, 2, 3]), (1, [1, 2]), (0, [1, 2])], [], [(5, [5])], [], []⟩
/-! ingot/value.Project -/
@[go_sem] def ab2 : Ops := [
oo 5 (.box 5 (.t 2)), oo 6 (.alloc [(.bool false), (.int .i64 0), (.int .i64 0), .nilS, .nilS])]
def r_bg_0 := rg ab2 [0, 1, 5, 6]
@[go_sem] theorem r_bg_0_u : Gr X K s r_bg_0 ab2 [0, 1, 5, 6] := go_region _ _
@[go_sem] def ab1 : Ops := [
oo 7 (.mv (.t 0)), oo 8 (.len false (.t 7)), oo 9 (.bin .eql (.t 8) (ci 0)), oo 10 (.mv (.t 9)), og 11 10 false (.mv (.t 1)), og 12 10 false (.len false (.t 11)), og 13 10 false (.mv (.t 0)), og 14 10 false (.len false (.t 13)), og 15 10 false (.bin .neq (.t 12) (.t 14)), oo 16 (.pick (.t 10) (.c (.bool true)) (.t 15))]
def r_bg_1 := rg ab1 [0, 1, 5, 6, 16]
@[go_sem] theorem r_bg_1_u : Gr X K s r_bg_1 ab1 [0, 1, 5, 6, 16] := go_region _ _
@[go_sem] def ab0 : Ops := [
oo 17 (.load (some 5) (.t 5)), oo 18 (.call false n_av [(.t 17)]), ow (.store 5 (.t 6) (.t 18))]
def r_bg_2 := rg ab0 [6]
@[go_sem] theorem r_bg_2_u : Gr X K s r_bg_2 ab0 [6] := go_region _ _
@[go_sem] def abz : Ops := [
oo 19 (.mv (.t 0)), oo 20 (.mv (.t 1)), oo 21 (.load (some 5) (.t 5)), oo 22 (.call false n_al [(.t 19), (.t 20), (.t 21), (ci 0)]), ow (.store 5 (.t 6) (.t 22))]
def r_bg_3 := rg abz [6]
@[go_sem] theorem r_bg_3_u : Gr X K s r_bg_3 abz [6] := go_region _ _
def c_bg : ICode := (.seq r_bg_0 (.seq r_bg_1 (.cond (.t 16) (.seq r_bg_2 .ret) (.seq r_bg_3 .ret))))
def i_bg : IFunc := ⟨3, [.cell 6 (some 5)], c_bg⟩
def a_bg : Advice := ⟨[], [(3, [6]), (2, [6]), (1, [0, 1, 5, 6, 16]), (0, [0, 1, 5, 6])], [], [], [], []⟩
/-! slices.Clone[[]string,string] -/
@[go_sem] def adf : Ops := [
oo 2 (.asg (.c .nilS))]
def r_aq_0 := rg adf [0]
@[go_sem] theorem r_aq_0_u : Gr X K s r_aq_0 adf [0] := go_region _ _
@[go_sem] def ade : Ops := [
oo 3 (.mv (.t 0)), oo 4 (.isNil false (.t 3))]
def r_aq_1 := rg ade [0, 4]
@[go_sem] theorem r_aq_1_u : Gr X K s r_aq_1 ade [0, 4] := go_region _ _
@[go_sem] def adc : Ops := [
oo 2 (.asg (.c .nilS))]
def r_aq_2 := rg adc [2]
@[go_sem] theorem r_aq_2_u : Gr X K s r_aq_2 adc [2] := go_region _ _
@[go_sem] def adb : Ops := [
oo 5 (.lit true 1 0 (.str []) []), oo 6 (.mv (.t 0)), oo 7 (.append 1 16 (.t 5) (.t 6)), oo 2 (.asg (.t 7))]
def r_aq_3 := rg adb [2]
@[go_sem] theorem r_aq_3_u : Gr X K s r_aq_3 adb [2] := go_region _ _
def c_aq : ICode := (.seq r_aq_0 (.seq r_aq_1 (.cond (.t 4) (.seq r_aq_2 .ret) (.seq r_aq_3 .ret))))
def i_aq : IFunc := ⟨1, [.t 2], c_aq⟩
def a_aq : Advice := ⟨[5], [(3, [2]), (2, [2]), (1, [0, 4]), (0, [0])], [], [], [], []⟩
/-! ingot/types.flatten -/
@[go_sem] def ad9 : Ops := [
oo 5 (.box 6 (.t 1)), oo 8 (.asg (.c .nilS))]
def r_am_0 := rg ad9 [0, 2, 3, 5]
@[go_sem] theorem r_am_0_u : Gr X K s r_am_0 ad9 [0, 2, 3, 5] := go_region _ _
@[go_sem] def ad8 : Ops := [
oo 13 (.mv (.t 0)), oo 14 (.len false (.t 13)), oo 9 (.asg (.t 14))]
def r_am_1 := rg ad8 [0, 2, 3, 5, 9]
@[go_sem] theorem r_am_1_u : Gr X K s r_am_1 ad8 [0, 2, 3, 5, 9] := go_region _ _
@[go_sem] def ad6 : Ops := [
oo 15 (.mv (.t 0)), oo 16 (.fieldA 0 (.t 5)), oo 17 (.load none (.t 16)), oo 18 (.fieldA 1 (.t 5)), oo 19 (.load none (.t 18)), oo 20 (.call false n_aq [(.t 19)]), oo 21 (.call false n_bu [(.t 20)]), oo 22 (.fieldA 3 (.t 5)), oo 23 (.load none (.t 22)), oo 24 (.fieldA 4 (.t 5)), oo 25 (.load none (.t 24)), oo 26 (.fieldA 5 (.t 5)), oo 27 (.load none (.t 26)), oo 28 (.mv (.t 2)), oo 29 (.mv (.t 3)), oo 30 (.build [(.int .i64 0), .nilS, .nilS, (.int .i64 0), (.int .i64 0), (.int .i64 0), (.int .i64 0), (.int .i64 0)] [(0, 1, (.t 17)), (1, 1, (.c .nilS)), (2, 1, (.t 21)), (3, 1, (.t 23)), (4, 1, (.t 25)), (5, 1, (.t 27)), (6, 1, (.t 28)), (7, 1, (.t 29))]), oo 31 (.lit false 8 1 (.agg [(.int .i64 0), (.sl []), (.sl []), (.int .i64 0), (.int .i64 0), (.int .i64 0), (.int .i64 0), (.int .i64 0)]) [(0, (.t 30))]), oo 32 (.append 8 96 (.t 15) (.t 31)), oo 0 (.asg (.t 32))]
def ad7 : List (Nat × Nat) := [(0, 1), (0, 2), (0, 3), (1, 3), (2, 3), (0, 4), (1, 4), (2, 4), (0, 5), (1, 5), (2, 5), (0, 6), (1, 6), (2, 6), (0, 7), (1, 7), (2, 7), (3, 7), (4, 7), (5, 7), (6, 7), (0, 8), (1, 8), (2, 8), (3, 8), (4, 8), (5, 8), (6, 8), (0, 9), (1, 9), (2, 9), (3, 9), (4, 9), (5, 9), (6, 9), (7, 9), (8, 9), (0, 10), (1, 10), (2, 10), (3, 10), (4, 10), (5, 10), (6, 10), (7, 10), (8, 10), (0, 11), (1, 11), (2, 11), (3, 11), (4, 11), (5, 11), (6, 11), (7, 11), (8, 11), (9, 11), (10, 11), (0, 12), (1, 12), (2, 12), (3, 12), (4, 12), (5, 12), (6, 12), (7, 12), (8, 12), (9, 12), (10, 12), (0, 13), (1, 13), (2, 13), (3, 13), (4, 13), (5, 13), (6, 13), (7, 13), (8, 13), (9, 13), (10, 13), (11, 13), (12, 13), (0, 14), (1, 14), (2, 14), (3, 14), (4, 14), (5, 14), (6, 14), (7, 14), (8, 14), (9, 14), (10, 14), (11, 14), (12, 14), (13, 14), (0, 15), (0, 16)]
def r_am_2 : ICode := .region ad6 ad7 [0, 3, 5, 9]
@[go_sem] theorem r_am_2_u : go X (.c r_am_2 :: K) s = goRU X [] ad7 ad6 [0, 3, 5, 9] K s := go_regionU' _ _ _ _
@[go_sem] def ad5 : Ops := [
oo 10 (.asg (.c .nilS))]
def r_am_3 := rg ad5 [0, 3, 5, 9, 10]
@[go_sem] theorem r_am_3_u : Gr X K s r_am_3 ad5 [0, 3, 5, 9, 10] := go_region _ _
@[go_sem] def ad4 : Ops := [
oo 33 (.fieldA 2 (.t 5)), oo 34 (.load none (.t 33)), oo 35 (.len false (.t 34)), oo 36 (.mv (ci 0))]
def r_am_4 := rg ad4 [0, 3, 9, 10, 34, 35, 36]
@[go_sem] theorem r_am_4_u : Gr X K s r_am_4 ad4 [0, 3, 9, 10, 34, 35, 36] := go_region _ _
@[go_sem] def ad2 : Ops := [
oo 37 (.bin .lss (.t 36) (.t 35))]
def alf := rg ad2 [0, 3, 9, 10, 34, 35, 36, 37]
@[go_sem] theorem r_am_5_u : Gr X K s alf ad2 [0, 3, 9, 10, 34, 35, 36, 37] := go_region _ _
@[go_sem] def ad1 : Ops := [
oo 38 (.idxA 6 (.t 34) (.t 36)), oo 39 (.load (some 6) (.t 38)), oo 12 (.alloc [(.int .i64 0), .nilS, .nilS, (.int .i64 0), (.int .i64 0), (.int .i64 0)]), ow (.store 6 (.t 12) (.t 39))]
def ale := rg ad1 [0, 3, 9, 10, 12, 34, 35, 36]
@[go_sem] theorem r_am_6_u : Gr X K s ale ad1 [0, 3, 9, 10, 12, 34, 35, 36] := go_region _ _
@[go_sem] def ad0 : Ops := [
oo 40 (.mv (.t 10)), oo 41 (.mv (.t 0)), oo 42 (.len false (.t 41)), oo 43 (.lit false 1 1 (.int .i64 0) [(0, (.t 42))]), oo 44 (.append 1 8 (.t 40) (.t 43)), oo 10 (.asg (.t 44))]
def ald := rg ad0 [0, 3, 9, 10, 12, 34, 35, 36]
@[go_sem] theorem r_am_7_u : Gr X K s ald ad0 [0, 3, 9, 10, 12, 34, 35, 36] := go_region _ _
@[go_sem] def adz : Ops := [
oo 45 (.mv (.t 0)), oo 46 (.load (some 6) (.t 12)), oo 47 (.mv (.t 9)), oo 48 (.mv (.t 3)), oo 49 (.bin .add (.t 48) (ci 1)), oo 50 (.callg true n_am [(.t 45), (.t 46), (.t 47), (.t 49)] 0), oo 0 (.asg (.t 50))]
def alc := rg adz [0, 3, 9, 10, 34, 35, 36]
@[go_sem] theorem r_am_8_u : Gr X K s alc adz [0, 3, 9, 10, 34, 35, 36] := go_region _ _
@[go_sem] def ady : Ops := [
oo 51 (.bin .add (.t 36) (ci 1)), oo 36 (.mv (.t 51))]
def alb := rg ady [0, 3, 9, 10, 34, 35, 36]
@[go_sem] theorem r_am_9_u : Gr X K s alb ady [0, 3, 9, 10, 34, 35, 36] := go_region _ _
def apw : ICode := (.seq alf (.seq (.cond (.t 37) .skip (.exit 0)) (.seq (.block 1 (.seq (.seq (.free 12) ale) (.seq ald alc))) alb)))
@[go_sem] theorem b_am_10_u : Gn X K s apw (.seq alf (.seq (.cond (.t 37) .skip (.exit 0)) (.seq (.block 1 (.seq (.seq (.free 12) ale) (.seq ald alc))) alb))) := rfl
@[go_sem] def q7 : Ops := [
oo 52 (.mv (.t 0)), oo 53 (.mv (.t 9)), oo 54 (.mv (.t 10)), oo 55 (.call false n_b0 [(.t 54)]), oo 56 (.idxA 8 (.t 52) (.t 53)), oo 57 (.fieldA 1 (.t 56)), ow (.store 1 (.t 57) (.t 55))]
def alh := rg q7 [0]
@[go_sem] theorem r_am_11_u : Gr X K s alh q7 [0] := go_region _ _
@[go_sem] def q6 : Ops := [
oo 58 (.mv (.t 0)), oo 8 (.asg (.t 58))]
def alg := rg q6 [8]
@[go_sem] theorem r_am_12_u : Gr X K s alg q6 [8] := go_region _ _
def c_am : ICode := (.seq r_am_0 (.seq r_am_1 (.seq r_am_2 (.seq r_am_3 (.seq (.seq r_am_4 (.block 0 (.loop apw))) (.seq (.seq (.demote [10]) alh) (.seq alg .ret)))))))
def i_am : IFunc := ⟨4, [.t 8], c_am⟩
def a_am : Advice := ⟨[32, 44, 50], [(11, [8]), (10, [0]), (9, [0, 3, 9, 10, 34, 35, 36]), (8, [0, 3, 9, 10, 34, 35, 36]), (7, [0, 3, 9, 10, 12, 34, 35, 36]), (6, [0, 3, 9, 10, 12, 34, 35, 36]), (5, [0, 3, 9, 10, 34, 35, 36, 37]), (4, [0, 3, 9, 10, 34, 35, 36]), (3, [0, 3, 5, 9, 10]), (2, [0, 3, 5, 9]), (1, [0, 2, 3, 5, 9]), (0, [0, 2, 3, 5])], [(10, [10])], [(6, [12])], [(50, 0)], []⟩
/-! ingot/types.right -/
@[go_sem] def afp : Ops := [
oo 1 (.box 6 (.t 0)), oo 2 (.asg (.c (.bool false)))]
def r_ah_0 := rg afp [1]
@[go_sem] theorem r_ah_0_u : Gr X K s r_ah_0 afp [1] := go_region _ _
@[go_sem] def afo : Ops := [
oo 3 (.asg (ci 0)), oo 4 (.asg (ci 0)), oo 5 (.asg (ci 0)), oo 6 (.asg (.c (.bool false)))]
def r_ah_1 := rg afo [1, 3, 4, 5, 6]
@[go_sem] theorem r_ah_1_u : Gr X K s r_ah_1 afo [1, 3, 4, 5, 6] := go_region _ _
@[go_sem] def afn : Ops := [
oo 7 (.fieldA 0 (.t 1)), oo 8 (.load none (.t 7))]
def r_ah_2 := rg afn [1, 3, 4, 5, 6, 8]
@[go_sem] theorem r_ah_2_u : Gr X K s r_ah_2 afn [1, 3, 4, 5, 6, 8] := go_region _ _
@[go_sem] def afm : Ops := [
oo 10 (.bin .eql (.t 8) (ci 11)), oo 9 (.asg (.t 10))]
def r_ah_3 := rg afm [1, 3, 4, 5, 6, 8, 9]
@[go_sem] theorem r_ah_3_u : Gr X K s r_ah_3 afm [1, 3, 4, 5, 6, 8, 9] := go_region _ _
@[go_sem] def afl : Ops := [
oo 12 (.bin .eql (.t 8) (ci 10)), oo 11 (.asg (.t 12))]
def r_ah_4 := rg afl [1, 3, 4, 5, 6, 8, 11]
@[go_sem] theorem r_ah_4_u : Gr X K s r_ah_4 afl [1, 3, 4, 5, 6, 8, 11] := go_region _ _
@[go_sem] def afk : Ops := [
oo 14 (.bin .eql (.t 8) (ci 12)), oo 13 (.asg (.t 14))]
def r_ah_5 := rg afk [1, 3, 4, 5, 6, 8, 13]
@[go_sem] theorem r_ah_5_u : Gr X K s r_ah_5 afk [1, 3, 4, 5, 6, 8, 13] := go_region _ _
@[go_sem] def afj : Ops := [
oo 16 (.bin .eql (.t 8) (ci 13)), oo 15 (.asg (.t 16))]
def r_ah_6 := rg afj [1, 3, 4, 5, 6, 8, 15]
@[go_sem] theorem r_ah_6_u : Gr X K s r_ah_6 afj [1, 3, 4, 5, 6, 8, 15] := go_region _ _
@[go_sem] def afi : Ops := [
oo 18 (.bin .eql (.t 8) (ci 16)), oo 17 (.asg (.t 18))]
def r_ah_7 := rg afi [1, 3, 4, 5, 6, 8, 17]
@[go_sem] theorem r_ah_7_u : Gr X K s r_ah_7 afi [1, 3, 4, 5, 6, 8, 17] := go_region _ _
@[go_sem] def afh : Ops := [
oo 19 (.bin .eql (.t 8) (ci 17)), oo 17 (.asg (.t 19))]
def r_ah_8 := rg afh [1, 3, 4, 5, 6, 8, 17]
@[go_sem] theorem r_ah_8_u : Gr X K s r_ah_8 afh [1, 3, 4, 5, 6, 8, 17] := go_region _ _
@[go_sem] def afg : Ops := [
oo 21 (.bin .eql (.t 8) (ci 14)), oo 20 (.asg (.t 21))]
def r_ah_9 := rg afg [1, 3, 4, 5, 6, 20]
@[go_sem] theorem r_ah_9_u : Gr X K s r_ah_9 afg [1, 3, 4, 5, 6, 20] := go_region _ _
@[go_sem] def sc : Ops := [
oo 22 (.mv (.t 3)), oo 23 (.bin .add (.t 22) (ci 1)), oo 3 (.asg (.t 23))]
def amj := rg sc [1, 3, 4, 5, 6]
@[go_sem] theorem r_ah_10_u : Gr X K s amj sc [1, 3, 4, 5, 6] := go_region _ _
@[go_sem] def sb : Ops := [
oo 24 (.mv (.t 3)), oo 25 (.bin .add (.t 24) (ci 1)), oo 3 (.asg (.t 25))]
def ami := rg sb [1, 3, 4, 5, 6]
@[go_sem] theorem r_ah_11_u : Gr X K s ami sb [1, 3, 4, 5, 6] := go_region _ _
@[go_sem] def r9 : Ops := [
oo 26 (.fieldA 1 (.t 1)), oo 27 (.load none (.t 26)), oo 28 (.len false (.t 27)), oo 29 (.fieldA 1 (.t 1)), oo 30 (.load none (.t 29)), oo 31 (.len false (.t 30)), oo 3 (.asg (.t 28)), oo 4 (.asg (.t 31))]
def sa : List (Nat × Nat) := [(0, 3), (1, 3), (2, 3), (0, 4), (1, 4), (2, 4), (0, 5), (1, 5), (2, 5), (3, 6), (4, 6), (5, 6)]
def amh : ICode := .region r9 sa [1, 3, 4, 5, 6]
@[go_sem] theorem r_ah_12_u : go X (.c amh :: K) s = goRU X [] sa r9 [1, 3, 4, 5, 6] K s := go_regionU' _ _ _ _
@[go_sem] def r8 : Ops := [
oo 32 (.fieldA 2 (.t 1)), oo 33 (.load none (.t 32)), oo 34 (.len false (.t 33)), oo 3 (.asg (.t 34))]
def amg := rg r8 [1, 3, 4, 5, 6]
@[go_sem] theorem r_ah_13_u : Gr X K s amg r8 [1, 3, 4, 5, 6] := go_region _ _
@[go_sem] def rz : Ops := [
oo 35 (.mv (.t 3)), oo 36 (.bin .lss (.t 35) (ci 1)), oo 37 (.mv (.t 36)), og 38 37 false (.mv (.t 3)), og 39 37 false (.bin .gtr (.t 38) (ci 255)), oo 40 (.pick (.t 37) (.c (.bool true)) (.t 39))]
def amf := rg rz [1, 3, 4, 5, 6, 40]
@[go_sem] theorem r_ah_14_u : Gr X K s amf rz [1, 3, 4, 5, 6, 40] := go_region _ _
@[go_sem] def ry : Ops := [
oo 2 (.asg (.c (.bool false)))]
def ame := rg ry [2]
@[go_sem] theorem r_ah_15_u : Gr X K s ame ry [2] := go_region _ _
@[go_sem] def rr : Ops := [
oo 41 (.fieldA 3 (.t 1)), oo 42 (.load none (.t 41)), oo 5 (.asg (.t 42))]
def amd := rg rr [1, 3, 4, 5, 6]
@[go_sem] theorem r_ah_16_u : Gr X K s amd rr [1, 3, 4, 5, 6] := go_region _ _
@[go_sem] def rq : Ops := [
oo 43 (.mv (.t 5)), oo 44 (.bin .lss (.t 43) (ci 1)), oo 45 (.mv (.t 44)), og 46 45 false (.mv (.t 5)), og 47 45 false (.bin .gtr (.t 46) (ci 4096)), oo 48 (.pick (.t 45) (.c (.bool true)) (.t 47))]
def amc := rg rq [1, 3, 4, 5, 6, 48]
@[go_sem] theorem r_ah_17_u : Gr X K s amc rq [1, 3, 4, 5, 6, 48] := go_region _ _
@[go_sem] def rp : Ops := [
oo 2 (.asg (.c (.bool false)))]
def amb := rg rp [2]
@[go_sem] theorem r_ah_18_u : Gr X K s amb rp [2] := go_region _ _
@[go_sem] def ro : Ops := [
oo 6 (.asg (.c (.bool true)))]
def ama := rg ro [1, 3, 4, 5, 6]
@[go_sem] theorem r_ah_19_u : Gr X K s ama ro [1, 3, 4, 5, 6] := go_region _ _
@[go_sem] def rn : Ops := [
oo 49 (.fieldA 2 (.t 1)), oo 50 (.load none (.t 49)), oo 51 (.len false (.t 50)), oo 52 (.mv (.t 3)), oo 53 (.bin .neq (.t 51) (.t 52)), oo 54 (.mv (.t 53)), og 55 54 false (.fieldA 1 (.t 1)), og 56 54 false (.load none (.t 55)), og 57 54 false (.len false (.t 56)), og 58 54 false (.mv (.t 4)), og 59 54 false (.bin .neq (.t 57) (.t 58)), oo 60 (.pick (.t 54) (.c (.bool true)) (.t 59)), oo 61 (.mv (.t 60)), og 62 61 false (.fieldA 3 (.t 1)), og 63 61 false (.load none (.t 62)), og 64 61 false (.mv (.t 5)), og 65 61 false (.bin .neq (.t 63) (.t 64)), oo 66 (.pick (.t 61) (.c (.bool true)) (.t 65)), oo 67 (.mv (.t 66)), og 68 67 false (.fieldA 1 (.t 1)), og 69 67 false (.load none (.t 68)), og 70 67 false (.call false n_b5 [(.t 69)]), og 71 67 false (.un .not (.t 70)), oo 72 (.pick (.t 67) (.c (.bool true)) (.t 71))]
def al9 := rg rn [1, 6, 72]
@[go_sem] theorem r_ah_20_u : Gr X K s al9 rn [1, 6, 72] := go_region _ _
@[go_sem] def rm : Ops := [
oo 2 (.asg (.c (.bool false)))]
def al8 := rg rm [2]
@[go_sem] theorem r_ah_21_u : Gr X K s al8 rm [2] := go_region _ _
@[go_sem] def rl : Ops := [
oo 73 (.mv (.t 6))]
def al7 := rg rl [1, 73]
@[go_sem] theorem r_ah_22_u : Gr X K s al7 rl [1, 73] := go_region _ _
@[go_sem] def rk : Ops := [
oo 74 (.fieldA 4 (.t 1)), oo 75 (.load none (.t 74)), oo 76 (.bin .geq (.t 75) (ci 1)), oo 77 (.mv (.t 76)), og 78 77 true (.fieldA 4 (.t 1)), og 79 77 true (.load none (.t 78)), og 80 77 true (.bin .leq (.t 79) (ci 18)), oo 81 (.pick (.t 77) (.t 80) (.c (.bool false))), oo 82 (.mv (.t 81)), og 83 82 true (.fieldA 5 (.t 1)), og 84 82 true (.load none (.t 83)), og 85 82 true (.bin .geq (.t 84) (ci 0)), oo 86 (.pick (.t 82) (.t 85) (.c (.bool false))), oo 87 (.mv (.t 86)), og 88 87 true (.fieldA 5 (.t 1)), og 89 87 true (.load none (.t 88)), og 90 87 true (.fieldA 4 (.t 1)), og 91 87 true (.load none (.t 90)), og 92 87 true (.bin .leq (.t 89) (.t 91)), oo 93 (.pick (.t 87) (.t 92) (.c (.bool false))), oo 2 (.asg (.t 93))]
def al6 := rg rk [2]
@[go_sem] theorem r_ah_23_u : Gr X K s al6 rk [2] := go_region _ _
@[go_sem] def rh : Ops := [
oo 94 (.fieldA 4 (.t 1)), oo 95 (.load none (.t 94)), oo 96 (.bin .eql (.t 95) (ci 0)), oo 97 (.mv (.t 96)), og 98 97 true (.fieldA 5 (.t 1)), og 99 97 true (.load none (.t 98)), og 100 97 true (.bin .eql (.t 99) (ci 0)), oo 101 (.pick (.t 97) (.t 100) (.c (.bool false))), oo 2 (.asg (.t 101))]
def al5 := rg rh [2]
@[go_sem] theorem r_ah_24_u : Gr X K s al5 rh [2] := go_region _ _
def c_ah : ICode := (.seq r_ah_0 (.seq r_ah_1 (.seq (.seq r_ah_2 (.block 0 (.seq (.block 6 (.seq (.block 5 (.seq (.block 4 (.seq (.block 3 (.seq (.block 2 (.seq (.block 1 (.seq (.seq (.seq r_ah_3 (.cond (.t 9) (.exit 1) .skip)) (.seq (.seq r_ah_4 (.cond (.t 11) (.exit 2) .skip)) (.seq (.seq r_ah_5 (.cond (.t 13) (.exit 3) .skip)) (.seq (.seq r_ah_6 (.cond (.t 15) (.exit 4) .skip)) (.seq (.seq (.seq r_ah_7 (.cond (.t 17) .skip r_ah_8)) (.cond (.t 17) (.exit 5) .skip)) (.seq r_ah_9 (.cond (.t 20) (.exit 6) .skip))))))) (.exit 0))) amj)) (.seq ami (.exit 0)))) (.seq amh (.exit 0)))) (.seq (.seq amg (.seq amf (.cond (.t 40) (.seq ame .ret) .skip))) (.exit 0)))) (.seq (.seq amd (.seq amc (.cond (.t 48) (.seq amb .ret) .skip))) (.exit 0)))) (.seq ama (.exit 0))))) (.seq al9 (.cond (.t 72) (.seq al8 .ret) (.seq al7 (.cond (.t 73) (.seq al6 .ret) (.seq al5 .ret))))))))
def i_ah : IFunc := ⟨1, [.t 2], c_ah⟩
def a_ah : Advice := ⟨[], [(24, [2]), (23, [2]), (22, [1, 73]), (21, [2]), (20, [1, 6, 72]), (19, [1, 3, 4, 5, 6]), (18, [2]), (17, [1, 3, 4, 5, 6, 48]), (16, [1, 3, 4, 5, 6]), (15, [2]), (14, [1, 3, 4, 5, 6, 40]), (13, [1, 3, 4, 5, 6]), (12, [1, 3, 4, 5, 6]), (11, [1, 3, 4, 5, 6]), (10, [1, 3, 4, 5, 6]), (9, [1, 3, 4, 5, 6, 20]), (8, [1, 3, 4, 5, 6, 8, 17]), (7, [1, 3, 4, 5, 6, 8, 17]), (6, [1, 3, 4, 5, 6, 8, 15]), (5, [1, 3, 4, 5, 6, 8, 13]), (4, [1, 3, 4, 5, 6, 8, 11]), (3, [1, 3, 4, 5, 6, 8, 9]), (2, [1, 3, 4, 5, 6, 8]), (1, [1, 3, 4, 5, 6]), (0, [1])], [], [], [], []⟩
/-! ingot/types.walk -/
@[go_sem] def adp : Ops := [
oo 3 (.box 6 (.t 0)), oo 6 (.asg (ci 0))]
def r_ap_0 := rg adp [1, 2, 3]
@[go_sem] theorem r_ap_0_u : Gr X K s r_ap_0 adp [1, 2, 3] := go_region _ _
@[go_sem] def ado : Ops := [
oo 11 (.mv (.t 1)), oo 12 (.bin .gtr (.t 11) (ci 16)), oo 13 (.mv (.t 12)), og 14 13 false (.mv (.t 2)), og 15 13 false (.nilck (.t 14)), og 16 13 false (.load none (.t 15)), og 17 13 false (.bin .geq (.t 16) (ci 100)), oo 18 (.pick (.t 13) (.c (.bool true)) (.t 17)), oo 10 (.asg (.t 18))]
def r_ap_1 := rg ado [1, 2, 3, 10]
@[go_sem] theorem r_ap_1_u : Gr X K s r_ap_1 ado [1, 2, 3, 10] := go_region _ _
@[go_sem] def adn : Ops := [
oo 6 (.asg (ci 4))]
def r_ap_2 := rg adn [6]
@[go_sem] theorem r_ap_2_u : Gr X K s r_ap_2 adn [6] := go_region _ _
@[go_sem] def adm : Ops := [
oo 20 (.fieldA 0 (.t 3)), oo 21 (.load none (.t 20)), oo 22 (.bin .eql (.t 21) (ci 5)), oo 23 (.mv (.t 22)), og 24 23 false (.fieldA 0 (.t 3)), og 25 23 false (.load none (.t 24)), og 26 23 false (.bin .eql (.t 25) (ci 6)), oo 27 (.pick (.t 23) (.c (.bool true)) (.t 26)), oo 19 (.asg (.t 27))]
def r_ap_3 := rg adm [1, 2, 3, 19]
@[go_sem] theorem r_ap_3_u : Gr X K s r_ap_3 adm [1, 2, 3, 19] := go_region _ _
@[go_sem] def adl : Ops := [
oo 6 (.asg (ci 5))]
def r_ap_4 := rg adl [6]
@[go_sem] theorem r_ap_4_u : Gr X K s r_ap_4 adl [6] := go_region _ _
@[go_sem] def adk : Ops := [
oo 29 (.fieldA 0 (.t 3)), oo 30 (.load none (.t 29)), oo 31 (.bin .lss (.t 30) (ci 0)), oo 32 (.mv (.t 31)), og 33 32 false (.fieldA 0 (.t 3)), og 34 32 false (.load none (.t 33)), og 35 32 false (.bin .gtr (.t 34) (ci 17)), oo 36 (.pick (.t 32) (.c (.bool true)) (.t 35)), oo 37 (.mv (.t 36)), og 38 37 false (.load (some 6) (.t 3)), og 39 37 false (.call false n_ah [(.t 38)]), og 40 37 false (.un .not (.t 39)), oo 41 (.pick (.t 37) (.c (.bool true)) (.t 40)), oo 28 (.asg (.t 41))]
def r_ap_5 := rg adk [1, 2, 3, 28]
@[go_sem] theorem r_ap_5_u : Gr X K s r_ap_5 adk [1, 2, 3, 28] := go_region _ _
@[go_sem] def adj : Ops := [
oo 6 (.asg (ci 1))]
def r_ap_6 := rg adj [6]
@[go_sem] theorem r_ap_6_u : Gr X K s r_ap_6 adj [6] := go_region _ _
@[go_sem] def adi : Ops := [
oo 42 (.mv (.t 2)), oo 43 (.nilck (.t 42)), oo 44 (.load none (.t 43)), oo 45 (.bin .add (.t 44) (ci 1)), oo 46 (.nilck (.t 42)), ow (.store 1 (.t 46) (.t 45))]
def r_ap_7 := rg adi [1, 2, 3]
@[go_sem] theorem r_ap_7_u : Gr X K s r_ap_7 adi [1, 2, 3] := go_region _ _
@[go_sem] def adh : Ops := [
oo 47 (.fieldA 2 (.t 3)), oo 48 (.load none (.t 47)), oo 49 (.len false (.t 48)), oo 50 (.mv (ci 0))]
def r_ap_8 := rg adh [1, 2, 48, 49, 50]
@[go_sem] theorem r_ap_8_u : Gr X K s r_ap_8 adh [1, 2, 48, 49, 50] := go_region _ _
@[go_sem] def adg : Ops := [
oo 51 (.bin .lss (.t 50) (.t 49))]
def ak5 := rg adg [1, 2, 48, 49, 50, 51]
@[go_sem] theorem r_ap_9_u : Gr X K s ak5 adg [1, 2, 48, 49, 50, 51] := go_region _ _
@[go_sem] def qz : Ops := [
oo 52 (.idxA 6 (.t 48) (.t 50)), oo 53 (.load (some 6) (.t 52)), oo 8 (.alloc [(.int .i64 0), .nilS, .nilS, (.int .i64 0), (.int .i64 0), (.int .i64 0)]), ow (.store 6 (.t 8) (.t 53))]
def yk := rg qz [1, 2, 8, 48, 49, 50]
@[go_sem] theorem r_ap_10_u : Gr X K s yk qz [1, 2, 8, 48, 49, 50] := go_region _ _
@[go_sem] def qy : Ops := [
oo 54 (.load (some 6) (.t 8)), oo 55 (.mv (.t 1)), oo 56 (.bin .add (.t 55) (ci 1)), oo 57 (.mv (.t 2)), oo 58 (.call false n_ap [(.t 54), (.t 56), (.t 57)]), oo 9 (.asg (.t 58))]
def yj := rg qy [1, 2, 9, 48, 49, 50]
@[go_sem] theorem r_ap_11_u : Gr X K s yj qy [1, 2, 9, 48, 49, 50] := go_region _ _
@[go_sem] def qx : Ops := [
oo 59 (.mv (.t 9)), oo 60 (.bin .neq (.t 59) (ci 0))]
def yi := rg qx [1, 2, 9, 48, 49, 50, 60]
@[go_sem] theorem r_ap_12_u : Gr X K s yi qx [1, 2, 9, 48, 49, 50, 60] := go_region _ _
@[go_sem] def qw : Ops := [
oo 61 (.mv (.t 9)), oo 6 (.asg (.t 61))]
def yh := rg qw [6]
@[go_sem] theorem r_ap_13_u : Gr X K s yh qw [6] := go_region _ _
@[go_sem] def qu : Ops := [
oo 62 (.bin .add (.t 50) (ci 1)), oo 50 (.mv (.t 62))]
def yg := rg qu [1, 2, 48, 49, 50]
@[go_sem] theorem r_ap_14_u : Gr X K s yg qu [1, 2, 48, 49, 50] := go_region _ _
def apu : ICode := (.seq ak5 (.seq (.cond (.t 51) .skip (.exit 1)) (.seq (.block 2 (.seq (.seq (.free 8) yk) (.seq yj (.seq yi (.cond (.t 60) (.seq yh .ret) .skip))))) yg)))
@[go_sem] theorem b_ap_15_u : Gn X K s apu (.seq ak5 (.seq (.cond (.t 51) .skip (.exit 1)) (.seq (.block 2 (.seq (.seq (.free 8) yk) (.seq yj (.seq yi (.cond (.t 60) (.seq yh .ret) .skip))))) yg))) := rfl
@[go_sem] def qt : Ops := [
oo 6 (.asg (ci 0))]
def ak6 := rg qt [6]
@[go_sem] theorem r_ap_16_u : Gr X K s ak6 qt [6] := go_region _ _
def c_ap : ICode := (.seq r_ap_0 (.seq (.block 0 (.seq r_ap_1 (.cond (.t 10) (.seq r_ap_2 .ret) (.seq r_ap_3 (.cond (.t 19) (.seq r_ap_4 .ret) (.seq r_ap_5 (.cond (.t 28) (.seq r_ap_6 .ret) .skip))))))) (.seq r_ap_7 (.seq (.seq r_ap_8 (.block 1 (.loop apu))) (.seq ak6 .ret)))))
def i_ap : IFunc := ⟨3, [.t 6], c_ap⟩
def a_ap : Advice := ⟨[], [(15, [6]), (14, [1, 2, 48, 49, 50]), (13, [6]), (12, [1, 2, 9, 48, 49, 50, 60]), (11, [1, 2, 9, 48, 49, 50]), (10, [1, 2, 8, 48, 49, 50]), (9, [1, 2, 48, 49, 50, 51]), (8, [1, 2, 48, 49, 50]), (7, [1, 2, 3]), (2, [6]), (4, [6]), (6, [6]), (5, [1, 2, 3, 28]), (3, [1, 2, 3, 19]), (1, [1, 2, 3, 10]), (0, [1, 2, 3])], [], [(10, [8])], [], []⟩
/-! ingot/types.Check -/
@[go_sem] def abl : Ops := [
oo 1 (.box 6 (.t 0)), oo 2 (.asg (ci 0))]
def r_bp_0 := rg abl [1]
@[go_sem] theorem r_bp_0_u : Gr X K s r_bp_0 abl [1] := go_region _ _
@[go_sem] def abk : Ops := [
oo 3 (.alloc [(.int .i64 0)]), ow (.store 1 (.t 3) (ci 0))]
def r_bp_1 := rg abk [1, 3]
@[go_sem] theorem r_bp_1_u : Gr X K s r_bp_1 abk [1, 3] := go_region _ _
@[go_sem] def abj : Ops := [
oo 4 (.load (some 6) (.t 1)), oo 5 (.call false n_ap [(.t 4), (ci 1), (.t 3)]), oo 2 (.asg (.t 5))]
def r_bp_2 := rg abj [2]
@[go_sem] theorem r_bp_2_u : Gr X K s r_bp_2 abj [2] := go_region _ _
def c_bp : ICode := (.seq r_bp_0 (.seq r_bp_1 (.seq r_bp_2 .ret)))
def i_bp : IFunc := ⟨1, [.t 2], c_bp⟩
def a_bp : Advice := ⟨[], [(2, [2]), (1, [1, 3]), (0, [1])], [], [], [], []⟩
/-! ingot/types.Flatten -/
@[go_sem] def ab6 : Ops := [
oo 1 (.box 6 (.t 0)), oo 2 (.asg (.c .nilS))]
def r_bf_0 := rg ab6 [1]
@[go_sem] theorem r_bf_0_u : Gr X K s r_bf_0 ab6 [1] := go_region _ _
@[go_sem] def ab5 : Ops := [
oo 3 (.load (some 6) (.t 1)), oo 4 (.call false n_bp [(.t 3)]), oo 5 (.bin .neq (.t 4) (ci 0))]
def r_bf_1 := rg ab5 [1, 5]
@[go_sem] theorem r_bf_1_u : Gr X K s r_bf_1 ab5 [1, 5] := go_region _ _
@[go_sem] def ab4 : Ops := [
oo 2 (.asg (.c .nilS))]
def r_bf_2 := rg ab4 [2]
@[go_sem] theorem r_bf_2_u : Gr X K s r_bf_2 ab4 [2] := go_region _ _
@[go_sem] def ab3 : Ops := [
oo 6 (.load (some 6) (.t 1)), oo 7 (.callg false n_am [(.c .nilS), (.t 6), (ci (-1)), (ci 1)] 0), oo 8 (.call false n_br [(.t 7)]), oo 2 (.asg (.t 8))]
def r_bf_3 := rg ab3 [2]
@[go_sem] theorem r_bf_3_u : Gr X K s r_bf_3 ab3 [2] := go_region _ _
def c_bf : ICode := (.seq r_bf_0 (.seq r_bf_1 (.cond (.t 5) (.seq r_bf_2 .ret) (.seq r_bf_3 .ret))))
def i_bf : IFunc := ⟨1, [.t 2], c_bf⟩
def a_bf : Advice := ⟨[], [(3, [2]), (2, [2]), (1, [1, 5]), (0, [1])], [], [], [(7, 0)], []⟩
/-! ingot/ingotlaw14.ValueProjects -/
@[go_sem] def agu : Ops := [
oo 3 (.box 6 (.t 0)), oo 4 (.box 5 (.t 1)), oo 6 (.asg (.c (.bool false)))]
def r_ac_0 := rg agu [2, 3, 4]
@[go_sem] theorem r_ac_0_u : Gr X K s r_ac_0 agu [2, 3, 4] := go_region _ _
@[go_sem] def agt : Ops := [
oo 13 (.call false n_bw []), oo 14 (.un .not (.t 13))]
def r_ac_1 := rg agt [2, 3, 4, 14]
@[go_sem] theorem r_ac_1_u : Gr X K s r_ac_1 agt [2, 3, 4, 14] := go_region _ _
@[go_sem] def ags : Ops := [
oo 6 (.asg (.c (.bool false)))]
def r_ac_2 := rg ags [6]
@[go_sem] theorem r_ac_2_u : Gr X K s r_ac_2 ags [6] := go_region _ _
@[go_sem] def agr : Ops := [
oo 15 (.load (some 6) (.t 3)), oo 16 (.call false n_bi [(.t 15)]), oo 17 (.un .not (.t 16)), oo 18 (.mv (.t 17)), og 19 18 false (.load (some 5) (.t 4)), og 20 18 false (.call false n_bo [(.t 19)]), og 21 18 false (.un .not (.t 20)), oo 22 (.pick (.t 18) (.c (.bool true)) (.t 21)), oo 23 (.mv (.t 22)), og 24 23 false (.mv (.t 2)), og 25 23 false (.len false (.t 24)), og 26 23 false (.bin .gtr (.t 25) (ci 20)), oo 27 (.pick (.t 23) (.c (.bool true)) (.t 26)), oo 28 (.mv (.t 27)), og 29 28 false (.load (some 6) (.t 3)), og 30 28 false (.load (some 5) (.t 4)), og 31 28 false (.call false n_ab [(.t 29), (.t 30)]), og 32 28 false (.bin .neq (.t 31) (ci 0)), oo 33 (.pick (.t 28) (.c (.bool true)) (.t 32))]
def r_ac_3 := rg agr [2, 3, 4, 33]
@[go_sem] theorem r_ac_3_u : Gr X K s r_ac_3 agr [2, 3, 4, 33] := go_region _ _
@[go_sem] def agq : Ops := [
oo 6 (.asg (.c (.bool true)))]
def r_ac_4 := rg agq [6]
@[go_sem] theorem r_ac_4_u : Gr X K s r_ac_4 agq [6] := go_region _ _
@[go_sem] def agp : Ops := [
oo 34 (.load (some 6) (.t 3)), oo 35 (.call false n_ay [(.t 34)]), oo 7 (.asg (.t 35))]
def r_ac_5 := rg agp [2, 3, 4, 7]
@[go_sem] theorem r_ac_5_u : Gr X K s r_ac_5 agp [2, 3, 4, 7] := go_region _ _
@[go_sem] def ago : Ops := [
oo 37 (.mv (.t 7)), oo 38 (.mv (.t 2)), oo 39 (.call false n_b3 [(.t 37), (.t 38)]), oo 36 (.mv (.t 39)), oo 40 (.ext (.t 36) 0), oo 41 (.ext (.t 36) 1), oo 8 (.asg (.t 40)), oo 9 (.asg (.t 41))]
def r_ac_6 := rg ago [2, 3, 4, 7, 8, 9]
@[go_sem] theorem r_ac_6_u : Gr X K s r_ac_6 ago [2, 3, 4, 7, 8, 9] := go_region _ _
@[go_sem] def agn : Ops := [
oo 42 (.mv (.t 9)), oo 43 (.bin .neq (.t 42) (ci 0)), oo 44 (.mv (.t 43)), og 45 44 false (.mv (.t 2)), og 46 44 false (.len false (.t 45)), og 47 44 false (.bin .eql (.t 46) (ci 0)), oo 48 (.pick (.t 44) (.c (.bool true)) (.t 47))]
def r_ac_7 := rg agn [3, 4, 7, 8, 48]
@[go_sem] theorem r_ac_7_u : Gr X K s r_ac_7 agn [3, 4, 7, 8, 48] := go_region _ _
@[go_sem] def agm : Ops := [
oo 6 (.asg (.c (.bool true)))]
def r_ac_8 := rg agm [6]
@[go_sem] theorem r_ac_8_u : Gr X K s r_ac_8 agm [6] := go_region _ _
@[go_sem] def agk : Ops := [
oo 49 (.load (some 6) (.t 3)), oo 50 (.call false n_bf [(.t 49)]), oo 51 (.mv (.t 8)), oo 52 (.load (some 5) (.t 4)), oo 53 (.call false n_bg [(.t 50), (.t 51), (.t 52)]), oo 10 (.alloc [(.bool false), (.int .i64 0), (.int .i64 0), .nilS, .nilS]), ow (.store 5 (.t 10) (.t 53))]
def agl : List (Nat × Nat) := [(0, 2), (1, 2), (0, 3), (1, 3), (2, 3), (0, 5), (1, 5), (2, 5), (3, 5), (4, 5)]
def r_ac_9 : ICode := .region agk agl [3, 4, 7, 8, 10]
@[go_sem] theorem r_ac_9_u : go X (.c r_ac_9 :: K) s = goRU X [] agl agk [3, 4, 7, 8, 10] K s := go_regionU' _ _ _ _
@[go_sem] def tm : Ops := [
oo 54 (.mv (.t 7)), oo 55 (.len false (.t 54)), oo 56 (.mkS 1 1 (.bool false) (.t 55) (.t 55)), oo 11 (.asg (.t 56))]
def am5 := rg tm [3, 4, 7, 8, 10, 11]
@[go_sem] theorem r_ac_10_u : Gr X K s am5 tm [3, 4, 7, 8, 10, 11] := go_region _ _
@[go_sem] def tk : Ops := [
oo 12 (.asg (ci 0))]
def am4 := rg tk [3, 4, 7, 8, 10, 11, 12]
@[go_sem] theorem r_ac_11_u : Gr X K s am4 tk [3, 4, 7, 8, 10, 11, 12] := go_region _ _
@[go_sem] def tj : Ops := [
oo 57 (.mv (.t 12)), oo 58 (.mv (.t 7)), oo 59 (.len false (.t 58)), oo 60 (.bin .lss (.t 57) (.t 59))]
def y9 := rg tj [3, 4, 7, 8, 10, 11, 12, 60]
@[go_sem] theorem r_ac_12_u : Gr X K s y9 tj [3, 4, 7, 8, 10, 11, 12, 60] := go_region _ _
@[go_sem] def ti : Ops := [
oo 63 (.mv (.t 11)), oo 64 (.mv (.t 12)), oo 65 (.idxA 1 (.t 63) (.t 64)), ow (.store 1 (.t 65) (.c (.bool true)))]
def y8 := rg ti [3, 4, 7, 8, 10, 11, 12]
@[go_sem] theorem r_ac_13_u : Gr X K s y8 ti [3, 4, 7, 8, 10, 11, 12] := go_region _ _
@[go_sem] def tg : Ops := [
oo 61 (.mv (.t 12)), oo 62 (.bin .add (.t 61) (ci 1)), oo 12 (.asg (.t 62))]
def y7 := rg tg [3, 4, 7, 8, 10, 11, 12]
@[go_sem] theorem r_ac_14_u : Gr X K s y7 tg [3, 4, 7, 8, 10, 11, 12] := go_region _ _
def ap1 : ICode := (.seq (.seq y9 (.cond (.t 60) .skip (.exit 0))) (.seq (.block 1 y8) y7))
@[go_sem] theorem b_ac_15_u : Gn X K s ap1 (.seq (.seq y9 (.cond (.t 60) .skip (.exit 0))) (.seq (.block 1 y8) y7)) := rfl
@[go_sem] def te : Ops := [
oo 66 (.load (some 5) (.t 10)), oo 67 (.mv (.t 7)), oo 68 (.mv (.t 8)), oo 69 (.load (some 5) (.t 4)), oo 70 (.call false n_ai [(.t 67), (.t 68), (ci 0), (.t 69)]), oo 71 (.call false n_aj [(.t 66), (.t 70)]), oo 72 (.mv (.t 71)), og 73 72 true (.load (some 6) (.t 3)), og 74 72 true (.call false n_bf [(.t 73)]), og 75 72 true (.mv (.t 11)), og 76 72 true (.load (some 5) (.t 4)), og 77 72 true (.call false n_bg [(.t 74), (.t 75), (.t 76)]), og 78 72 true (.load (some 5) (.t 4)), og 79 72 true (.call false n_aj [(.t 77), (.t 78)]), oo 80 (.pick (.t 72) (.t 79) (.c (.bool false))), oo 6 (.asg (.t 80))]
def tf : List (Nat × Nat) := [(0, 1), (0, 2), (1, 2), (0, 3), (1, 3), (2, 3), (0, 4), (7, 9), (8, 9), (7, 10), (8, 10), (9, 10), (7, 12), (8, 12), (9, 12), (10, 12), (11, 12)]
def am3 : ICode := .region te tf [6]
@[go_sem] theorem r_ac_16_u : go X (.c am3 :: K) s = goRU X [] tf te [6] K s := go_regionU' _ _ _ _
def c_ac : ICode := (.seq r_ac_0 (.seq r_ac_1 (.cond (.t 14) (.seq r_ac_2 .ret) (.seq r_ac_3 (.cond (.t 33) (.seq r_ac_4 .ret) (.seq r_ac_5 (.seq r_ac_6 (.seq r_ac_7 (.cond (.t 48) (.seq r_ac_8 .ret) (.seq r_ac_9 (.seq am5 (.seq (.seq am4 (.block 0 (.loop ap1))) (.seq (.seq (.demote [11]) am3) .ret)))))))))))))
def i_ac : IFunc := ⟨3, [.t 6], c_ac⟩
def a_ac : Advice := ⟨[], [(15, [6]), (13, [3, 4, 7, 8, 10, 11, 12]), (14, [3, 4, 7, 8, 10, 11, 12]), (12, [3, 4, 7, 8, 10, 11, 12, 60]), (11, [3, 4, 7, 8, 10, 11, 12]), (10, [3, 4, 7, 8, 10, 11]), (9, [3, 4, 7, 8, 10]), (8, [6]), (7, [3, 4, 7, 8, 48]), (6, [2, 3, 4, 7, 8, 9]), (5, [2, 3, 4, 7]), (4, [6]), (3, [2, 3, 4, 33]), (2, [6]), (1, [2, 3, 4, 14]), (0, [2, 3, 4])], [(15, [11])], [], [], []⟩
/-! the tables -/
def tbl : List (FuncId × IFunc) := [(n_aj, i_aj), (n_ai, i_ai), (n_ay, i_ay), (n_aw, i_aw), (n_ao, i_ao), (n_bm, i_bm), (n_bj, i_bj), (n_bl, i_bl), (n_au, i_au), (n_az, i_az), (n_a8, i_a8), (n_ae, i_ae), (n_ab, i_ab), (n_ak, i_ak), (n_bb, i_bb), (n_bo, i_bo), (n_aa, i_aa), (n_af, i_af), (n_a7, i_a7), (n_ag, i_ag), (n_bh, i_bh), (n_bi, i_bi), (n_al, i_al), (n_ax, i_ax), (n_av, i_av), (n_bg, i_bg), (n_aq, i_aq), (n_am, i_am), (n_ah, i_ah), (n_ap, i_ap), (n_bp, i_bp), (n_bf, i_bf), (n_ac, i_ac)]
def clips : List FuncId := [55, 53, 51, 75, 73]
noncomputable def tab : List AF := [⟨29, Tryz.f29, ⟨[19, 35, 40], [(13, [2]), (12, [2, 3]), (5, [2, 3]), (4, [1, 2, 3, 13]), (11, [2, 3, 24, 25, 26]), (10, [2, 3, 24, 25, 26]), (9, [2, 3, 5, 24, 25, 26]), (8, [2, 3, 24, 25, 26, 27]), (7, [2, 3, 24, 25, 26]), (6, [1, 2, 3, 21]), (3, [1, 2, 3, 7, 8]), (2, [1, 2, 3, 7]), (1, [1, 2, 3]), (0, [1, 2])], [], [(9, [5])], [], []⟩⟩,
⟨45, Tryz.f45, ⟨[], [(10, [6]), (9, [1, 2, 15, 16, 17]), (8, [6]), (7, [1, 2, 15, 16, 17, 30]), (6, [1, 2, 8, 9, 15, 16, 17]), (5, [1, 2, 7, 8, 15, 16, 17]), (4, [1, 2, 15, 16, 17, 18]), (3, [1, 2, 15, 16, 17]), (2, [6]), (1, [0, 1, 2, 14]), (0, [0, 1, 2])], [], [(5, [8]), (6, [9])], [], []⟩⟩,
⟨46, Tryz.f46, ⟨[], [(1, [5]), (0, [2, 3, 4])], [], [], [], []⟩⟩,
⟨44, Tryz.f44, ⟨[], [(1, [4]), (0, [0, 1])], [], [], [], []⟩⟩,
⟨16, Tryz.f16, ⟨[], [(1, [6]), (0, [3, 4, 5])], [], [], [], []⟩⟩,
⟨27, Tryz.f27, ⟨[], [(17, [4]), (16, [2, 3, 5, 36, 37, 38]), (15, [2, 3, 5, 36, 37, 38]), (14, [2, 3, 5, 7, 8, 36, 37, 38, 51]), (13, [2, 3, 5, 7, 8, 9, 36, 37, 38]), (12, [2, 3, 5, 6, 7, 36, 37, 38]), (11, [2, 3, 5, 36, 37, 38, 39]), (10, [2, 3, 5, 36, 37, 38]), (3, [4]), (5, [4]), (7, [4]), (9, [4]), (8, [2, 3, 5, 29]), (6, [2, 3, 5, 23]), (4, [2, 3, 5, 14]), (2, [2, 3, 5, 10]), (1, [2, 3, 5]), (0, [2, 3])], [], [(12, [7]), (13, [8])], [], []⟩⟩,
⟨61, Tryz.f61, ⟨[], [(17, [4]), (3, [4]), (5, [4]), (8, [4]), (7, [5]), (10, [4]), (12, [4]), (16, [4]), (15, [3, 48]), (14, [3, 9, 48]), (13, [3, 9, 48]), (11, [3, 9, 42]), (9, [3, 9, 35]), (6, [3, 9, 23]), (4, [2, 3, 9, 16]), (2, [2, 3, 9, 10]), (1, [2, 3, 9]), (0, [2, 3])], [], [], [], []⟩⟩,
⟨28, Tryz.f28, ⟨[43], [(25, [4]), (15, [4]), (17, [4]), (24, [4]), (23, [5, 66, 67]), (22, [5, 66, 67]), (21, [5, 10, 66, 67]), (20, [5, 66, 67, 68]), (19, [5, 66, 67]), (18, [5, 62]), (16, [5, 46, 56]), (14, [3, 5, 46, 47]), (13, [3, 5, 46]), (12, [2, 3, 5, 22, 23, 24]), (11, [2, 3, 5, 22, 23, 24]), (10, [2, 3, 5, 7, 8, 22, 23, 24, 37]), (9, [2, 3, 5, 7, 8, 9, 22, 23, 24]), (8, [2, 3, 5, 6, 7, 22, 23, 24]), (7, [2, 3, 5, 22, 23, 24, 25]), (6, [2, 3, 5, 22, 23, 24]), (5, [2, 3, 5]), (2, [4]), (4, [4]), (3, [2, 3, 14]), (1, [2, 3, 11]), (0, [2, 3])], [(15, [5]), (17, [5]), (25, [5])], [(8, [7]), (9, [8])], [], []⟩⟩,
⟨60, Tryz.f60, ⟨[], [(12, [6, 7]), (11, [6, 7]), (10, [2, 3, 6, 36]), (3, [2, 3, 6]), (5, [2, 3, 6]), (9, [2, 3, 6]), (8, [6, 7]), (7, [3, 4, 6, 28]), (6, [2, 3, 4, 6, 16]), (4, [2, 3, 4, 6, 9, 12]), (2, [2, 3, 4, 6, 9, 10]), (1, [2, 3, 4, 6, 9]), (0, [2, 3, 4, 6])], [], [], [], []⟩⟩,
⟨59, Tryz.f59, ⟨[], [(14, [4]), (13, [4]), (12, [38]), (11, [6]), (10, [6]), (9, [4]), (8, [6, 29]), (7, [5, 6]), (6, [5, 6, 18]), (5, [2, 5, 6, 11, 16]), (4, [2, 5, 6, 11, 14]), (3, [2, 5, 6, 11, 12]), (2, [2, 5, 6, 11]), (1, [2, 5, 6]), (0, [2, 3])], [], [], [], []⟩⟩,
⟨26, Tryz.f26, ⟨[], [(8, [2]), (7, [3, 6, 7, 8]), (6, [3, 6, 7, 8]), (5, [3, 6, 7, 8, 14]), (4, [3, 5, 6, 7, 8]), (3, [3, 6, 7, 8, 9]), (2, [3, 6, 7, 8]), (1, [0, 3]), (0, [0])], [], [], [], []⟩⟩,
⟨58, Tryz.f58, ⟨[], [(9, [4]), (8, [4]), (7, [4]), (6, [3, 18]), (5, [3, 10]), (4, [3, 6, 10]), (3, [2, 3, 6, 7]), (2, [2, 3, 6, 7]), (1, [2, 3, 6]), (0, [2, 3])], [], [], [], []⟩⟩,
⟨78, Tryz.f78, ⟨[], [(1, [4]), (0, [0, 1])], [], [], [], []⟩⟩,
⟨92, Tryz.f92, ⟨[], [(3, [2]), (2, [2]), (1, [0, 4]), (0, [0])], [], [], [], []⟩⟩,
⟨77, Tryz.f77, ⟨[], [(12, [2]), (11, [3, 4]), (10, [3, 4]), (9, [3, 4, 22]), (8, [3, 4]), (7, [3, 4]), (6, [3, 4]), (5, [3, 4]), (4, [3, 4, 10]), (3, [3, 4, 7]), (2, [3, 4]), (1, [0, 3]), (0, [0])], [], [], [], []⟩⟩,
⟨76, Tryz.f76, ⟨[], [(1, [4]), (0, [0, 1])], [], [], [], []⟩⟩,
⟨57, Tryz.f57, ⟨[], [(19, [4]), (3, [4]), (5, [4]), (7, [4]), (10, [4]), (12, [4]), (14, [4]), (16, [4]), (18, [4]), (17, [2, 3, 50]), (15, [2, 3, 6, 43]), (13, [2, 3, 6, 35]), (11, [2, 3, 6, 33]), (9, [2, 3, 6, 27]), (8, [2, 3, 6, 27]), (6, [2, 3, 6, 22]), (4, [2, 3, 6, 17]), (2, [2, 3, 6, 7]), (1, [2, 3, 6]), (0, [2, 3])], [], [], [], []⟩⟩,
⟨56, Tryz.f56, ⟨[], [(3, [4]), (2, [4]), (1, [2, 3, 6]), (0, [2, 3])], [], [], [], []⟩⟩,
⟨25, Tryz.f25, ⟨[], [(20, [4]), (19, [2, 3, 41, 42, 43]), (18, [4]), (17, [2, 3, 10, 41, 42, 43, 75]), (16, [2, 3, 10, 41, 42, 43]), (15, [4]), (14, [2, 3, 7, 8, 41, 42, 43, 70]), (13, [2, 3, 6, 7, 8, 9, 41, 42, 43]), (12, [2, 3, 6, 7, 41, 42, 43]), (11, [2, 3, 41, 42, 43, 44]), (10, [2, 3, 41, 42, 43]), (9, [4]), (8, [2, 3, 5, 38]), (7, [2, 3, 5]), (2, [4]), (4, [4]), (6, [4]), (5, [2, 3, 30]), (3, [2, 3, 27]), (1, [2, 3, 11]), (0, [2, 3])], [], [(12, [7]), (13, [8])], [], []⟩⟩,
⟨41, Tryz.f41, ⟨[], [(8, [2]), (7, [3, 6, 7, 8]), (6, [2]), (5, [3, 5, 6, 7, 8, 14]), (4, [3, 5, 6, 7, 8]), (3, [3, 6, 7, 8, 9]), (2, [3, 6, 7, 8]), (1, [0, 3]), (0, [0])], [], [], [], []⟩⟩,
⟨71, Tryz.f71, ⟨[], [(1, [2]), (0, [0])], [], [], [], []⟩⟩,
⟨43, Tryz.f43, ⟨[], [(13, [4]), (12, [4]), (11, [19]), (10, [4]), (9, [0, 1, 16]), (8, [4]), (7, [0, 1, 13]), (6, [4]), (5, [4]), (4, [12]), (3, [0, 1, 6, 11]), (2, [0, 1, 5, 6]), (1, [0, 1, 5]), (0, [0, 1])], [], [], [], []⟩⟩,
⟨70, Tryz.f70, ⟨[], [(1, [2]), (0, [0])], [], [], [], []⟩⟩,
⟨42, Tryz.f42, ⟨[], [(13, [4]), (12, [4]), (11, [19]), (10, [4]), (9, [0, 1, 16]), (8, [4]), (7, [0, 1, 13]), (6, [4]), (5, [4]), (4, [12]), (3, [0, 1, 6, 11]), (2, [0, 1, 5, 6]), (1, [0, 1, 5]), (0, [0, 1])], [], [], [], []⟩⟩,
⟨40, Tryz.f40, ⟨[], [(1, [4]), (0, [0, 1])], [], [], [], []⟩⟩,
⟨39, Tryz.f39, ⟨[], [(7, [2]), (6, [2]), (5, [7]), (4, [3, 7]), (3, [3, 4]), (2, [3, 4]), (1, [3]), (0, [0])], [], [], [], []⟩⟩,
⟨38, Tryz.f38, ⟨[], [(7, [2]), (6, [2]), (5, [7]), (4, [3, 7]), (3, [3, 4]), (2, [3, 4]), (1, [3]), (0, [0])], [], [], [], []⟩⟩,
⟨14, Tryz.f14, ⟨[], [(5, [6, 7]), (2, [6, 7]), (4, [6, 7]), (3, [4, 5, 21]), (1, [3, 4, 5, 8]), (0, [3, 4, 5])], [], [], [], []⟩⟩,
⟨10, Tryz.f10, ⟨[13, 19, 92], [(6, [0]), (5, [1, 2, 3, 4, 5, 6]), (4, [1, 2, 3, 4, 5]), (3, [1, 2, 3]), (2, [1, 2]), (1, [1]), (0, [])], [], [], [], []⟩⟩]
set_option maxRecDepth 100000 in
theorem k_aj : cFunc Tryz.prog a_aj Tryz.f17 = some i_aj := by kernel_rfl
set_option maxRecDepth 100000 in
theorem k_ai : cFunc Tryz.prog a_ai Tryz.f22 = some i_ai := by kernel_rfl
set_option maxRecDepth 100000 in
theorem k_ay : cFunc Tryz.prog a_ay Tryz.f18 = some i_ay := by kernel_rfl
set_option maxRecDepth 100000 in
theorem k_aw : cFunc Tryz.prog a_aw Tryz.f37 = some i_aw := by kernel_rfl
set_option maxRecDepth 100000 in
theorem k_ao : cFunc Tryz.prog a_ao Tryz.f36 = some i_ao := by kernel_rfl
set_option maxRecDepth 100000 in
theorem k_bm : cFunc Tryz.prog a_bm Tryz.f35 = some i_bm := by kernel_rfl
set_option maxRecDepth 100000 in
theorem k_bj : cFunc Tryz.prog a_bj Tryz.f34 = some i_bj := by kernel_rfl
set_option maxRecDepth 100000 in
theorem k_bl : cFunc Tryz.prog a_bl Tryz.f68 = some i_bl := by kernel_rfl
set_option maxRecDepth 100000 in
theorem k_au : cFunc Tryz.prog a_au Tryz.f89 = some i_au := by kernel_rfl
set_option maxRecDepth 100000 in
theorem k_az : cFunc Tryz.prog a_az Tryz.f90 = some i_az := by kernel_rfl
set_option maxRecDepth 100000 in
theorem k_a8 : cFunc Tryz.prog a_a8 Tryz.f67 = some i_a8 := by kernel_rfl
set_option maxRecDepth 100000 in
theorem k_ae : cFunc Tryz.prog a_ae Tryz.f33 = some i_ae := by kernel_rfl
set_option maxRecDepth 100000 in
theorem k_ab : cFunc Tryz.prog a_ab Tryz.f13 = some i_ab := by kernel_rfl
set_option maxRecDepth 100000 in
theorem k_ak : cFunc Tryz.prog a_ak Tryz.f66 = some i_ak := by kernel_rfl
set_option maxRecDepth 100000 in
theorem k_bb : cFunc Tryz.prog a_bb Tryz.f32 = some i_bb := by kernel_rfl
set_option maxRecDepth 100000 in
theorem k_bo : cFunc Tryz.prog a_bo Tryz.f12 = some i_bo := by kernel_rfl
set_option maxRecDepth 100000 in
theorem k_aa : cFunc Tryz.prog a_aa Tryz.f88 = some i_aa := by kernel_rfl
set_option maxRecDepth 100000 in
theorem k_af : cFunc Tryz.prog a_af Tryz.f65 = some i_af := by kernel_rfl
set_option maxRecDepth 100000 in
theorem k_a7 : cFunc Tryz.prog a_a7 Tryz.f31 = some i_a7 := by kernel_rfl
set_option maxRecDepth 100000 in
theorem k_ag : cFunc Tryz.prog a_ag Tryz.f64 = some i_ag := by kernel_rfl
set_option maxRecDepth 100000 in
theorem k_bh : cFunc Tryz.prog a_bh Tryz.f30 = some i_bh := by kernel_rfl
set_option maxRecDepth 100000 in
theorem k_bi : cFunc Tryz.prog a_bi Tryz.f11 = some i_bi := by kernel_rfl
set_option maxRecDepth 100000 in
theorem k_al : cFunc Tryz.prog a_al Tryz.f49 = some i_al := by kernel_rfl
set_option maxRecDepth 100000 in
theorem k_ax : cFunc Tryz.prog a_ax Tryz.f54 = some i_ax := by kernel_rfl
set_option maxRecDepth 100000 in
theorem k_av : cFunc Tryz.prog a_av Tryz.f23 = some i_av := by kernel_rfl
set_option maxRecDepth 100000 in
theorem k_bg : cFunc Tryz.prog a_bg Tryz.f20 = some i_bg := by kernel_rfl
set_option maxRecDepth 100000 in
theorem k_aq : cFunc Tryz.prog a_aq Tryz.f74 = some i_aq := by kernel_rfl
set_option maxRecDepth 100000 in
theorem k_am : cFunc Tryz.prog a_am Tryz.f52 = some i_am := by kernel_rfl
set_option maxRecDepth 100000 in
theorem k_ah : cFunc Tryz.prog a_ah Tryz.f91 = some i_ah := by kernel_rfl
set_option maxRecDepth 100000 in
theorem k_ap : cFunc Tryz.prog a_ap Tryz.f72 = some i_ap := by kernel_rfl
set_option maxRecDepth 100000 in
theorem k_bp : cFunc Tryz.prog a_bp Tryz.f50 = some i_bp := by kernel_rfl
set_option maxRecDepth 100000 in
theorem k_bf : cFunc Tryz.prog a_bf Tryz.f21 = some i_bf := by kernel_rfl
set_option maxRecDepth 100000 in
theorem k_ac : cFunc Tryz.prog a_ac Tryz.f4 = some i_ac := by kernel_rfl
theorem tbl_ok : Entries Tryz.prog tbl :=
  .cons (.of Tryz.func17 (by kernel_rfl) k_aj) <|
  .cons (.of Tryz.func22 (by kernel_rfl) k_ai) <|
  .cons (.of Tryz.func18 (by kernel_rfl) k_ay) <|
  .cons (.of Tryz.func37 (by kernel_rfl) k_aw) <|
  .cons (.of Tryz.func36 (by kernel_rfl) k_ao) <|
  .cons (.of Tryz.func35 (by kernel_rfl) k_bm) <|
  .cons (.of Tryz.func34 (by kernel_rfl) k_bj) <|
  .cons (.of Tryz.func68 (by kernel_rfl) k_bl) <|
  .cons (.of Tryz.func89 (by kernel_rfl) k_au) <|
  .cons (.of Tryz.func90 (by kernel_rfl) k_az) <|
  .cons (.of Tryz.func67 (by kernel_rfl) k_a8) <|
  .cons (.of Tryz.func33 (by kernel_rfl) k_ae) <|
  .cons (.of Tryz.func13 (by kernel_rfl) k_ab) <|
  .cons (.of Tryz.func66 (by kernel_rfl) k_ak) <|
  .cons (.of Tryz.func32 (by kernel_rfl) k_bb) <|
  .cons (.of Tryz.func12 (by kernel_rfl) k_bo) <|
  .cons (.of Tryz.func88 (by kernel_rfl) k_aa) <|
  .cons (.of Tryz.func65 (by kernel_rfl) k_af) <|
  .cons (.of Tryz.func31 (by kernel_rfl) k_a7) <|
  .cons (.of Tryz.func64 (by kernel_rfl) k_ag) <|
  .cons (.of Tryz.func30 (by kernel_rfl) k_bh) <|
  .cons (.of Tryz.func11 (by kernel_rfl) k_bi) <|
  .cons (.of Tryz.func49 (by kernel_rfl) k_al) <|
  .cons (.of Tryz.func54 (by kernel_rfl) k_ax) <|
  .cons (.of Tryz.func23 (by kernel_rfl) k_av) <|
  .cons (.of Tryz.func20 (by kernel_rfl) k_bg) <|
  .cons (.of Tryz.func74 (by kernel_rfl) k_aq) <|
  .cons (.of Tryz.func52 (by kernel_rfl) k_am) <|
  .cons (.of Tryz.func91 (by kernel_rfl) k_ah) <|
  .cons (.of Tryz.func72 (by kernel_rfl) k_ap) <|
  .cons (.of Tryz.func50 (by kernel_rfl) k_bp) <|
  .cons (.of Tryz.func21 (by kernel_rfl) k_bf) <|
  .cons (.of Tryz.func4 (by kernel_rfl) k_ac) <|
  .nil
theorem tab_ok : ATab Tryz.prog tab :=
  .cons Tryz.func29 (by kernel_rfl) <|
  .cons Tryz.func45 (by kernel_rfl) <|
  .cons Tryz.func46 (by kernel_rfl) <|
  .cons Tryz.func44 (by kernel_rfl) <|
  .cons Tryz.func16 (by kernel_rfl) <|
  .cons Tryz.func27 (by kernel_rfl) <|
  .cons Tryz.func61 (by kernel_rfl) <|
  .cons Tryz.func28 (by kernel_rfl) <|
  .cons Tryz.func60 (by kernel_rfl) <|
  .cons Tryz.func59 (by kernel_rfl) <|
  .cons Tryz.func26 (by kernel_rfl) <|
  .cons Tryz.func58 (by kernel_rfl) <|
  .cons Tryz.func78 (by kernel_rfl) <|
  .cons Tryz.func92 (by kernel_rfl) <|
  .cons Tryz.func77 (by kernel_rfl) <|
  .cons Tryz.func76 (by kernel_rfl) <|
  .cons Tryz.func57 (by kernel_rfl) <|
  .cons Tryz.func56 (by kernel_rfl) <|
  .cons Tryz.func25 (by kernel_rfl) <|
  .cons Tryz.func41 (by kernel_rfl) <|
  .cons Tryz.func71 (by kernel_rfl) <|
  .cons Tryz.func43 (by kernel_rfl) <|
  .cons Tryz.func70 (by kernel_rfl) <|
  .cons Tryz.func42 (by kernel_rfl) <|
  .cons Tryz.func40 (by kernel_rfl) <|
  .cons Tryz.func39 (by kernel_rfl) <|
  .cons Tryz.func38 (by kernel_rfl) <|
  .cons Tryz.func14 (by kernel_rfl) <|
  .cons Tryz.func10 (by kernel_rfl) <|
  .nil

/-! what is known besides -/
def exts : FuncId → Option (List D → Option V) := fun f => if f = n_bz then some (xFmtI) else if f = n_b6 then some (xJoin) else if f = n_b5 then some (aa4) else if f = n_b4 then some (xFlat) else if f = n_b3 then some (ajt) else none
def iters : FuncId → Option (List D → Option (List (List D))) := fun f => none
def pow10 : Array Value := (Lib.pow10Tab.map fun z => Value.int .u64 z).toArray
def gobjs : Nat → Option (Array Value) := fun n => if n = 1 then some pow10 else none
noncomputable def cfg : Cfg := { funcs := fnsOf Tryz.prog tbl tab, meth := fun _ _ => none, glob := fun _ => none, gobj := gobjs, intTy := fun _ => false, clip := fun f => clips.contains f, ext := exts, iter := iters }

noncomputable abbrev X_aj : Kx := fx cfg 0 [.t 4]
theorem e_aj : Oe cfg n_aj 2 [.t 4] c_aj := fun _ _ _ => au (fn := i_aj) rfl rfl _ _ _
theorem o_aj (x0 x1 : D) : Of X_aj n_aj [.d x0, .d x1] c_aj := e_aj 0 _ _ rfl rfl
noncomputable abbrev X_ai : Kx := fx cfg 0 [.cell 8 (some 5)]
theorem e_ai : Oe cfg n_ai 4 [.cell 8 (some 5)] c_ai := fun _ _ _ => au (fn := i_ai) rfl rfl _ _ _
theorem o_ai (x0 x1 x2 x3 : D) : Of X_ai n_ai [.d x0, .d x1, .d x2, .d x3] c_ai := e_ai 0 _ _ rfl rfl
noncomputable abbrev X_ay : Kx := fx cfg 0 [.t 2]
theorem e_ay : Oe cfg n_ay 1 [.t 2] c_ay := fun _ _ _ => au (fn := i_ay) rfl rfl _ _ _
theorem o_ay (x0 : D) : Of X_ay n_ay [.d x0] c_ay := e_ay 0 _ _ rfl rfl
noncomputable abbrev X_aw : Kx := fx cfg 0 [.cell 6 (some 6)]
theorem e_aw : Oe cfg n_aw 3 [.cell 6 (some 6)] c_aw := fun _ _ _ => au (fn := i_aw) rfl rfl _ _ _
theorem o_aw (x0 x1 x2 : D) : Of X_aw n_aw [.d x0, .d x1, .d x2] c_aw := e_aw 0 _ _ rfl rfl
noncomputable abbrev X_ao : Kx := fx cfg 0 [.t 2]
theorem e_ao : Oe cfg n_ao 1 [.t 2] c_ao := fun _ _ _ => au (fn := i_ao) rfl rfl _ _ _
theorem o_ao (x0 : D) : Of X_ao n_ao [.d x0] c_ao := e_ao 0 _ _ rfl rfl
noncomputable abbrev X_bm : Kx := fx cfg 0 [.t 2]
theorem e_bm : Oe cfg n_bm 1 [.t 2] c_bm := fun _ _ _ => au (fn := i_bm) rfl rfl _ _ _
theorem o_bm (x0 : D) : Of X_bm n_bm [.d x0] c_bm := e_bm 0 _ _ rfl rfl
noncomputable abbrev X_bj : Kx := fx cfg 0 [.t 2]
theorem e_bj : Oe cfg n_bj 1 [.t 2] c_bj := fun _ _ _ => au (fn := i_bj) rfl rfl _ _ _
theorem o_bj (x0 : D) : Of X_bj n_bj [.d x0] c_bj := e_bj 0 _ _ rfl rfl
noncomputable abbrev X_bl : Kx := fx cfg 0 [.t 4]
theorem e_bl : Oe cfg n_bl 2 [.t 4] c_bl := fun _ _ _ => au (fn := i_bl) rfl rfl _ _ _
theorem o_bl (x0 x1 : D) : Of X_bl n_bl [.d x0, .d x1] c_bl := e_bl 0 _ _ rfl rfl
noncomputable abbrev X_au : Kx := fx cfg 0 [.t 2]
theorem e_au : Oe cfg n_au 1 [.t 2] c_au := fun _ _ _ => au (fn := i_au) rfl rfl _ _ _
theorem o_au (x0 : D) : Of X_au n_au [.d x0] c_au := e_au 0 _ _ rfl rfl
noncomputable abbrev X_az : Kx := fx cfg 0 [.t 2]
theorem e_az : Oe cfg n_az 1 [.t 2] c_az := fun _ _ _ => au (fn := i_az) rfl rfl _ _ _
theorem o_az (x0 : D) : Of X_az n_az [.d x0] c_az := e_az 0 _ _ rfl rfl
noncomputable abbrev X_a8 : Kx := fx cfg 0 [.t 2]
theorem e_a8 : Oe cfg n_a8 1 [.t 2] c_a8 := fun _ _ _ => au (fn := i_a8) rfl rfl _ _ _
theorem o_a8 (x0 : D) : Of X_a8 n_a8 [.d x0] c_a8 := e_a8 0 _ _ rfl rfl
noncomputable abbrev X_ae : Kx := fx cfg 0 [.t 6]
theorem e_ae : Oe cfg n_ae 3 [.t 6] c_ae := fun _ _ _ => au (fn := i_ae) rfl rfl _ _ _
theorem o_ae (x0 x1 x2 : D) : Of X_ae n_ae [.d x0, .d x1, .d x2] c_ae := e_ae 0 _ _ rfl rfl
noncomputable abbrev X_ab : Kx := fx cfg 0 [.t 4]
theorem e_ab : Oe cfg n_ab 2 [.t 4] c_ab := fun _ _ _ => au (fn := i_ab) rfl rfl _ _ _
theorem o_ab (x0 x1 : D) : Of X_ab n_ab [.d x0, .d x1] c_ab := e_ab 0 _ _ rfl rfl
noncomputable abbrev X_ak : Kx := fx cfg 0 [.t 4]
theorem e_ak : Oe cfg n_ak 2 [.t 4] c_ak := fun _ _ _ => au (fn := i_ak) rfl rfl _ _ _
theorem o_ak (x0 x1 : D) : Of X_ak n_ak [.d x0, .d x1] c_ak := e_ak 0 _ _ rfl rfl
noncomputable abbrev X_bb : Kx := fx cfg 0 [.t 2]
theorem e_bb : Oe cfg n_bb 1 [.t 2] c_bb := fun _ _ _ => au (fn := i_bb) rfl rfl _ _ _
theorem o_bb (x0 : D) : Of X_bb n_bb [.d x0] c_bb := e_bb 0 _ _ rfl rfl
noncomputable abbrev X_bo : Kx := fx cfg 0 [.t 2]
theorem e_bo : Oe cfg n_bo 1 [.t 2] c_bo := fun _ _ _ => au (fn := i_bo) rfl rfl _ _ _
theorem o_bo (x0 : D) : Of X_bo n_bo [.d x0] c_bo := e_bo 0 _ _ rfl rfl
noncomputable abbrev X_aa : Kx := fx cfg 0 [.t 2]
theorem e_aa : Oe cfg n_aa 1 [.t 2] c_aa := fun _ _ _ => au (fn := i_aa) rfl rfl _ _ _
theorem o_aa (x0 : D) : Of X_aa n_aa [.d x0] c_aa := e_aa 0 _ _ rfl rfl
noncomputable abbrev X_af : Kx := fx cfg 0 [.t 6, .t 7]
theorem e_af : Oe cfg n_af 3 [.t 6, .t 7] c_af := fun _ _ _ => au (fn := i_af) rfl rfl _ _ _
theorem o_af (x0 x1 x2 : D) : Of X_af n_af [.d x0, .d x1, .d x2] c_af := e_af 0 _ _ rfl rfl
noncomputable abbrev X_a7 : Kx := fx cfg 0 [.t 2]
theorem e_a7 : Oe cfg n_a7 1 [.t 2] c_a7 := fun _ _ _ => au (fn := i_a7) rfl rfl _ _ _
theorem o_a7 (x0 : D) : Of X_a7 n_a7 [.d x0] c_a7 := e_a7 0 _ _ rfl rfl
noncomputable abbrev X_ag : Kx := fx cfg 0 [.t 4]
theorem e_ag : Oe cfg n_ag 2 [.t 4] c_ag := fun _ _ _ => au (fn := i_ag) rfl rfl _ _ _
theorem o_ag (x0 x1 : D) : Of X_ag n_ag [.d x0, .d x1] c_ag := e_ag 0 _ _ rfl rfl
noncomputable abbrev X_bh : Kx := fx cfg 0 [.t 2]
theorem e_bh : Oe cfg n_bh 1 [.t 2] c_bh := fun _ _ _ => au (fn := i_bh) rfl rfl _ _ _
theorem o_bh (x0 : D) : Of X_bh n_bh [.d x0] c_bh := e_bh 0 _ _ rfl rfl
noncomputable abbrev X_bi : Kx := fx cfg 0 [.t 2]
theorem e_bi : Oe cfg n_bi 1 [.t 2] c_bi := fun _ _ _ => au (fn := i_bi) rfl rfl _ _ _
theorem o_bi (x0 : D) : Of X_bi n_bi [.d x0] c_bi := e_bi 0 _ _ rfl rfl
noncomputable abbrev X_al : Kx := fx cfg 0 [.cell 8 (some 5)]
theorem e_al : Oe cfg n_al 4 [.cell 8 (some 5)] c_al := fun _ _ _ => au (fn := i_al) rfl rfl _ _ _
theorem o_al (x0 x1 x2 x3 : D) : Of X_al n_al [.d x0, .d x1, .d x2, .d x3] c_al := e_al 0 _ _ rfl rfl
noncomputable abbrev X_ax : Kx := fx cfg 0 [.t 2]
theorem e_ax : Oe cfg n_ax 1 [.t 2] c_ax := fun _ _ _ => au (fn := i_ax) rfl rfl _ _ _
theorem o_ax (x0 : D) : Of X_ax n_ax [.d x0] c_ax := e_ax 0 _ _ rfl rfl
noncomputable abbrev X_av : Kx := fx cfg 0 [.cell 2 (some 5)]
theorem e_av : Oe cfg n_av 1 [.cell 2 (some 5)] c_av := fun _ _ _ => au (fn := i_av) rfl rfl _ _ _
theorem o_av (x0 : D) : Of X_av n_av [.d x0] c_av := e_av 0 _ _ rfl rfl
noncomputable abbrev X_bg : Kx := fx cfg 0 [.cell 6 (some 5)]
theorem e_bg : Oe cfg n_bg 3 [.cell 6 (some 5)] c_bg := fun _ _ _ => au (fn := i_bg) rfl rfl _ _ _
theorem o_bg (x0 x1 x2 : D) : Of X_bg n_bg [.d x0, .d x1, .d x2] c_bg := e_bg 0 _ _ rfl rfl
noncomputable abbrev X_aq : Kx := fx cfg 0 [.t 2]
theorem e_aq : Oe cfg n_aq 1 [.t 2] c_aq := fun _ _ _ => au (fn := i_aq) rfl rfl _ _ _
theorem o_aq (x0 : D) : Of X_aq n_aq [.d x0] c_aq := e_aq 0 _ _ rfl rfl
noncomputable abbrev X_am : Kx := fx cfg 0 [.t 8]
theorem e_am : Oe cfg n_am 4 [.t 8] c_am := fun _ _ _ => au (fn := i_am) rfl rfl _ _ _
theorem o_am (x0 x1 x2 x3 : D) : Of X_am n_am [.d x0, .d x1, .d x2, .d x3] c_am := e_am 0 _ _ rfl rfl
noncomputable abbrev X_ah : Kx := fx cfg 0 [.t 2]
theorem e_ah : Oe cfg n_ah 1 [.t 2] c_ah := fun _ _ _ => au (fn := i_ah) rfl rfl _ _ _
theorem o_ah (x0 : D) : Of X_ah n_ah [.d x0] c_ah := e_ah 0 _ _ rfl rfl
noncomputable abbrev X_ap : Kx := fx cfg 0 [.t 6]
theorem e_ap : Oe cfg n_ap 3 [.t 6] c_ap := fun _ _ _ => au (fn := i_ap) rfl rfl _ _ _
theorem o_ap (x0 x1 x2 : D) : Of X_ap n_ap [.d x0, .d x1, .d x2] c_ap := e_ap 0 _ _ rfl rfl
noncomputable abbrev X_bp : Kx := fx cfg 0 [.t 2]
theorem e_bp : Oe cfg n_bp 1 [.t 2] c_bp := fun _ _ _ => au (fn := i_bp) rfl rfl _ _ _
theorem o_bp (x0 : D) : Of X_bp n_bp [.d x0] c_bp := e_bp 0 _ _ rfl rfl
noncomputable abbrev X_bf : Kx := fx cfg 0 [.t 2]
theorem e_bf : Oe cfg n_bf 1 [.t 2] c_bf := fun _ _ _ => au (fn := i_bf) rfl rfl _ _ _
theorem o_bf (x0 : D) : Of X_bf n_bf [.d x0] c_bf := e_bf 0 _ _ rfl rfl
noncomputable abbrev X_ac : Kx := fx cfg 0 [.t 6]
theorem e_ac : Oe cfg n_ac 3 [.t 6] c_ac := fun _ _ _ => au (fn := i_ac) rfl rfl _ _ _
theorem o_ac (x0 x1 x2 : D) : Of X_ac n_ac [.d x0, .d x1, .d x2] c_ac := e_ac 0 _ _ rfl rfl
@[go_sem] theorem u_bh : Uc cfg n_bh := uc rfl
@[go_sem] theorem u_ag : Uc cfg n_ag := uc rfl
@[go_sem] theorem u_bo : Uc cfg n_bo := uc rfl
@[go_sem] theorem u_bi : Uc cfg n_bi := uc rfl
@[go_sem] theorem u_ac : Uc cfg n_ac := uc rfl
@[go_sem] theorem u_bb : Uc cfg n_bb := uc rfl
@[go_sem] theorem u_ak : Uc cfg n_ak := uc rfl
@[go_sem] theorem u_bw : Uc cfg n_bw := uc rfl
@[go_sem] theorem u_a8 : Uc cfg n_a8 := uc rfl
@[go_sem] theorem u_au : Uc cfg n_au := uc rfl
@[go_sem] theorem u_az : Uc cfg n_az := uc rfl
@[go_sem] theorem u_bl : Uc cfg n_bl := uc rfl
@[go_sem] theorem u_a7 : Uc cfg n_a7 := uc rfl
@[go_sem] theorem u_b3 : Uc cfg n_b3 := uc rfl
@[go_sem] theorem u_ay : Uc cfg n_ay := uc rfl
@[go_sem] theorem u_bm : Uc cfg n_bm := uc rfl
@[go_sem] theorem u_af : Uc cfg n_af := uc rfl
@[go_sem] theorem u_b4 : Uc cfg n_b4 := uc rfl
@[go_sem] theorem u_aa : Uc cfg n_aa := uc rfl
@[go_sem] theorem u_ab : Uc cfg n_ab := uc rfl
@[go_sem] theorem u_aw : Uc cfg n_aw := uc rfl
@[go_sem] theorem u_ae : Uc cfg n_ae := uc rfl
@[go_sem] theorem u_ai : Uc cfg n_ai := uc rfl
@[go_sem] theorem u_aj : Uc cfg n_aj := uc rfl
@[go_sem] theorem u_ao : Uc cfg n_ao := uc rfl
@[go_sem] theorem u_bj : Uc cfg n_bj := uc rfl
@[go_sem] theorem u_bq : Uk cfg n_bq := uk rfl
@[go_sem] theorem u_bx : Uk cfg n_bx := uk rfl
@[go_sem] theorem u_b0 : Uk cfg n_b0 := uk rfl
@[go_sem] theorem u_bu : Uk cfg n_bu := uk rfl
@[go_sem] theorem u_br : Uk cfg n_br := uk rfl
@[go_sem] theorem u_ax : Uc cfg n_ax := uc rfl
@[go_sem] theorem u_aq : Uc cfg n_aq := uc rfl
@[go_sem] theorem u_bz : Uc cfg n_bz := uc rfl
@[go_sem] theorem u_b6 : Uc cfg n_b6 := uc rfl
@[go_sem] theorem u_bp : Uc cfg n_bp := uc rfl
@[go_sem] theorem u_bf : Uc cfg n_bf := uc rfl
@[go_sem] theorem u_am : Uc cfg n_am := uc rfl
@[go_sem] theorem u_b5 : Uc cfg n_b5 := uc rfl
@[go_sem] theorem u_ah : Uc cfg n_ah := uc rfl
@[go_sem] theorem u_ap : Uc cfg n_ap := uc rfl
@[go_sem] theorem u_av : Uc cfg n_av := uc rfl
@[go_sem] theorem u_bg : Uc cfg n_bg := uc rfl
@[go_sem] theorem u_al : Uc cfg n_al := uc rfl

end Go.Proofs.YtnabebdceaoiiaaGreatDoor
