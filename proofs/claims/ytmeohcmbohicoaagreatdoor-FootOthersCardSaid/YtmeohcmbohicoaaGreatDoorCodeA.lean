import Derived.Test.YtmeohcmbohicoaaGreatDoorL9
import Derived.Test.YtmeohcmbohicoaaGreatDoorChecked
namespace Go.Proofs.YtmeohcmbohicoaaGreatDoor
set_option linter.defProp false
open Go.Ev Go
variable {X:Kx} {K:List Kf} {s:St}
def n_ag:FuncId:=3
def n_dg:FuncId:=4
def n_br:FuncId:=5
def n_bp:FuncId:=6
def n_bl:FuncId:=7
def n_a6:FuncId:=8
def n_ac:FuncId:=9
def n_bq:FuncId:=10
def n_ba:FuncId:=11
def n_bf:FuncId:=12
def n_ap:FuncId:=13
def n_ai:FuncId:=14
def n_av:FuncId:=16
def n_aq:FuncId:=18
def n_am:FuncId:=20
def n_al:FuncId:=21
def n_c9:FuncId:=22
def n_cl:FuncId:=23
def n_cc:FuncId:=24
def n_ab:FuncId:=25
def n_aa:FuncId:=26
def n_b0:FuncId:=27
def n_cx:FuncId:=28
def n_a4:FuncId:=29
def n_bz:FuncId:=30
def n_bc:FuncId:=31
def n_bh:FuncId:=32
def n_ay:FuncId:=33
def n_bo:FuncId:=34
def n_ah:FuncId:=35
def n_az:FuncId:=36
def n_ax:FuncId:=37
def n_aw:FuncId:=38
def n_bm:FuncId:=39
def n_ck:FuncId:=41
def n_cg:FuncId:=43
def n_cf:FuncId:=45
def n_a8:FuncId:=46
def n_cd:FuncId:=47
def n_di:FuncId:=48
def n_dj:FuncId:=49
def n_dk:FuncId:=50
def n_af:FuncId:=53
def n_bw:FuncId:=54
def n_co:FuncId:=55
def n_bu:FuncId:=56
def n_dc:FuncId:=57
def n_a7:FuncId:=58
def n_cy:FuncId:=59
def n_bb:FuncId:=60
def n_dh:FuncId:=61
def n_ak:FuncId:=62
def n_c8:FuncId:=63
def n_cu:FuncId:=64
def n_ao:FuncId:=65
def n_bn:FuncId:=66
def n_cz:FuncId:=67
def n_cw:FuncId:=68
def n_cn:FuncId:=70
def n_b8:FuncId:=71
def n_cq:FuncId:=72
def n_bg:FuncId:=73
def n_bx:FuncId:=74
def n_a9:FuncId:=79
def n_ce:FuncId:=96
def n_bt:FuncId:=97
def n_aj:FuncId:=100
def n_bk:FuncId:=101
def n_bv:FuncId:=102
def n_a5:FuncId:=103
def n_b7:FuncId:=106
def n_da:FuncId:=108
def n_ct:FuncId:=116
def n_df:FuncId:=120
def n_db:FuncId:=121
def n_c7:FuncId:=122
def n_cm:FuncId:=124
def n_cr:FuncId:=125
@[go_sem] def r_bm_0_o:Ops:=[
oo 2 (.box 5 (.t 0)),oo 3 (.box 5 (.t 1)),bb6 4 false]
def r_bm_0:=rg r_bm_0_o [2,3]
@[go_sem] def r_bm_1_o:Ops:=[
bcb 6 0 2,bcj 7 6,bcb 8 0 3,bcj 9 8,oo 10 (.eqn true .bool (.t 7) (.t 9)),bcl 11 10,og 12 11 false (.fieldA 1 (.t 2)),og 13 11 false (.load none (.t 12)),og 14 11 false (.fieldA 1 (.t 3)),og 15 11 false (.load none (.t 14)),og 16 11 false (.bin .neq (.t 13) (.t 15)),bcp 17 11 16,bcl 18 17,og 19 18 false (.fieldA 2 (.t 2)),og 20 18 false (.load none (.t 19)),og 21 18 false (.fieldA 2 (.t 3)),og 22 18 false (.load none (.t 21)),og 23 18 false (.bin .neq (.t 20) (.t 22)),bcp 24 18 23,bcl 25 24,og 26 25 false (.fieldA 3 (.t 2)),og 27 25 false (.load none (.t 26)),og 28 25 false (.b2s (.t 27)),og 29 25 false (.fieldA 3 (.t 3)),og 30 25 false (.load none (.t 29)),og 31 25 false (.b2s (.t 30)),og 32 25 false (.bin .neq (.t 28) (.t 31)),bcp 33 25 32,bcl 34 33,og 35 34 false (.fieldA 4 (.t 2)),og 36 34 false (.load none (.t 35)),og 37 34 false (.len false (.t 36)),og 38 34 false (.fieldA 4 (.t 3)),og 39 34 false (.load none (.t 38)),og 40 34 false (.len false (.t 39)),og 41 34 false (.bin .neq (.t 37) (.t 40)),bcp 42 34 41]
def r_bm_1:=rg r_bm_1_o [2,3,42]
@[go_sem] def r_bm_2_o:Ops:=[
bb6 4 false]
def r_bm_2:=rg r_bm_2_o [4]
@[go_sem] def r_bm_3_o:Ops:=[
bb7 5 0]
def r_bm_3:=rg r_bm_3_o [2,3,5]
@[go_sem] def r_bm_4_o:Ops:=[
bcl 43 5,bcb 44 4 2,bcj 45 44,bci 46 false 45,bb9 47 .lss 43 46]
def r_bm_4:=rg r_bm_4_o [2,3,5,47]
@[go_sem] def r_bm_5_o:Ops:=[
bcb 50 4 2,bcj 51 50,bcl 52 5,bcg 53 5 51 52,bck 54 5 53,bcb 55 4 3,bcj 56 55,bcl 57 5,bcg 58 5 56 57,bck 59 5 58,bca 60 n_bm [(.t 54),(.t 59)],bcn 61 60]
def r_bm_5_n:List (Nat×Nat):=[(0,2),(1,2),(0,5),(1,5),(2,5),(3,5),(4,5),(0,6),(1,6),(2,6),(3,6),(4,6),(0,7),(1,7),(2,7),(3,7),(4,7),(5,7),(6,7),(0,8),(1,8),(2,8),(3,8),(4,8),(0,9),(1,9),(2,9),(3,9),(4,9)]
def r_bm_5:ICode:= .region r_bm_5_o r_bm_5_n [2,3,5,61]
@[go_sem] def r_bm_6_o:Ops:=[
bb6 4 false]
def r_bm_6:=rg r_bm_6_o [4]
@[go_sem] def r_bm_7_o:Ops:=[
bcl 48 5,bb8 49 .add 48 1,bcr 5 49]
def r_bm_7:=rg r_bm_7_o [2,3,5]
def b_bm_8:ICode:=(.seq (.seq r_bm_4 (.cond (.t 47) .skip (.exit 0))) (.seq (.block 1 (.seq r_bm_5 (.cond (.t 61) (.seq r_bm_6 .ret) .skip))) r_bm_7))
def a94:=bce b_bm_8.eq_1
@[go_sem] def r_bm_9_o:Ops:=[
bb6 4 true]
def r_bm_9:=rg r_bm_9_o [4]
def c_bm:ICode:=(.seq r_bm_0 (.seq r_bm_1 (.cond (.t 42) (.seq r_bm_2 .ret) (.seq (.seq r_bm_3 (.block 0 (.loop b_bm_8))) (.seq r_bm_9 .ret)))))
def i_bm:IFunc:=⟨2,[.t 4],c_bm⟩
def a_bm:=zzy ([(8,[4]),(5,[2,3,5]),(7,[4]),(6,[2,3,5,61]),(4,[2,3,5,47]),(3,[2,3,5]),(2,[4]),(1,[2,3,42]),(0,[2,3])])
def r_ai_0:=rg [
oo 2 (.box 12 (.t 0)),oo 3 (.box 12 (.t 1)),bb6 4 false] [2,3]
def r_ai_1:=rg [
bcb 10 0 2,bcj 11 10,bcb 12 0 3,bcj 13 12,bb9 14 .neq 11 13,bcl 15 14,og 16 15 false (.fieldA 9 (.t 2)),og 17 15 false (.load none (.t 16)),og 18 15 false (.fieldA 9 (.t 3)),og 19 15 false (.load none (.t 18)),og 20 15 false (.bin .neq (.t 17) (.t 19)),bcp 21 15 20,bcl 22 21,og 23 22 false (.fieldA 11 (.t 2)),og 24 22 false (.load none (.t 23)),og 25 22 false (.fieldA 11 (.t 3)),og 26 22 false (.load none (.t 25)),og 27 22 false (.bin .neq (.t 24) (.t 26)),bcp 28 22 27,bcl 29 28,og 30 29 false (.fieldA 2 (.t 2)),og 31 29 false (.load (some 6) (.t 30)),og 32 29 false (.fieldA 2 (.t 3)),og 33 29 false (.load (some 6) (.t 32)),og 34 29 false (.call false n_aq [(.t 31),(.t 33)]),og 35 29 false (.un .not (.t 34)),bcp 36 29 35,bcl 37 36,og 38 37 false (.fieldA 1 (.t 2)),og 39 37 false (.load none (.t 38)),og 40 37 false (.len false (.t 39)),og 41 37 false (.fieldA 1 (.t 3)),og 42 37 false (.load none (.t 41)),og 43 37 false (.len false (.t 42)),og 44 37 false (.bin .neq (.t 40) (.t 43)),bcp 45 37 44,bcl 46 45,og 47 46 false (.fieldA 8 (.t 2)),og 48 46 false (.load none (.t 47)),og 49 46 false (.len false (.t 48)),og 50 46 false (.fieldA 8 (.t 3)),og 51 46 false (.load none (.t 50)),og 52 46 false (.len false (.t 51)),og 53 46 false (.bin .neq (.t 49) (.t 52)),bcp 54 46 53,bcl 55 54,og 56 55 false (.fieldA 10 (.t 2)),og 57 55 false (.load none (.t 56)),og 58 55 false (.len false (.t 57)),og 59 55 false (.fieldA 10 (.t 3)),og 60 55 false (.load none (.t 59)),og 61 55 false (.len false (.t 60)),og 62 55 false (.bin .neq (.t 58) (.t 61)),bcp 63 55 62] [2,3,63]
@[go_sem] def r_ai_2_o:Ops:=[
bb6 4 false]
def r_ai_2:=rg r_ai_2_o [4]
def r_ai_3:=rg [
bb7 5 0] [2,3,5]
def a15:=rg [
bcl 64 5,bcb 65 1 2,bcj 66 65,bci 67 false 66,bb9 68 .lss 64 67] [2,3,5,68]
@[go_sem] def r_ai_5_o:Ops:=[
bcb 71 1 2,bcj 72 71,bcl 73 5,bcg 74 5 72 73,bck 75 5 74,bcb 76 1 3,bcj 77 76,bcl 78 5,bcg 79 5 77 78,bck 80 5 79,oo 81 (.eqn true (.agg [0,0,0,0,0]) (.t 75) (.t 80))]
def r_ai_5_n:List (Nat×Nat):=[(0,2),(1,2),(0,5),(1,5),(2,5),(3,5),(4,5),(0,6),(1,6),(2,6),(3,6),(4,6),(0,7),(1,7),(2,7),(3,7),(4,7),(5,7),(6,7),(0,8),(1,8),(2,8),(3,8),(4,8),(0,9),(1,9),(2,9),(3,9),(4,9)]
def r_ai_5:ICode:= .region r_ai_5_o r_ai_5_n [2,3,5,81]
@[go_sem] def r_ai_6_o:Ops:=[
bb6 4 false]
def r_ai_6:=rg r_ai_6_o [4]
@[go_sem] def r_ai_7_o:Ops:=[
bcl 69 5,bb8 70 .add 69 1,bcr 5 70]
def r_ai_7:=rg r_ai_7_o [2,3,5]
def b_ai_8:ICode:=(.seq (.seq a15 (.cond (.t 68) .skip (.exit 0))) (.seq (.block 1 (.seq r_ai_5 (.cond (.t 81) (.seq r_ai_6 .ret) .skip))) r_ai_7))
def a95:=bce b_ai_8.eq_1
def r_ai_9:=rg [
bb7 6 0] [2,3,6]
def ah4:=rg [
bcl 82 6,bcb 83 8 2,bcj 84 83,bci 85 false 84,bb9 86 .lss 82 85] [2,3,6,86]
@[go_sem] def a2d:Ops:=[
bcb 89 8 2,bcj 90 89,bcl 91 6,bcg 92 2 90 91,bcb 93 0 92,bcj 94 93,bcb 95 8 3,bcj 96 95,bcl 97 6,bcg 98 2 96 97,bcb 99 0 98,bcj 100 99,bb9 101 .neq 94 100,bcl 102 101,og 103 102 false (.fieldA 8 (.t 2)),og 104 102 false (.load none (.t 103)),bcd 105 102 false 6,og 106 102 false (.idxA 2 (.t 104) (.t 105)),og 107 102 false (.fieldA 1 (.t 106)),og 108 102 false (.load none (.t 107)),og 109 102 false (.b2s (.t 108)),og 110 102 false (.fieldA 8 (.t 3)),og 111 102 false (.load none (.t 110)),bcd 112 102 false 6,og 113 102 false (.idxA 2 (.t 111) (.t 112)),og 114 102 false (.fieldA 1 (.t 113)),og 115 102 false (.load none (.t 114)),og 116 102 false (.b2s (.t 115)),og 117 102 false (.bin .neq (.t 109) (.t 116)),bcp 118 102 117]
def a2e:List (Nat×Nat):=[(0,2),(1,2),(0,6),(1,6),(2,6),(3,6),(4,6),(5,6),(0,7),(1,7),(2,7),(3,7),(4,7),(5,7),(0,8),(1,8),(2,8),(3,8),(4,8),(5,8),(6,8),(7,8),(0,9),(1,9),(2,9),(3,9),(4,9),(5,9),(0,10),(1,10),(2,10),(3,10),(4,10),(5,10),(0,11),(1,11),(2,11),(3,11),(4,11),(5,11),(14,16),(15,16),(14,21),(15,21),(16,21),(17,21),(18,21),(19,21),(20,21),(14,22),(15,22),(16,22),(17,22),(18,22),(19,22),(20,22),(14,23),(15,23),(16,23),(17,23),(18,23),(19,23),(20,23),(21,23),(22,23),(14,24),(15,24),(16,24),(17,24),(18,24),(19,24),(20,24),(14,25),(15,25),(16,25),(17,25),(18,25),(19,25),(20,25),(14,26),(15,26),(16,26),(17,26),(18,26),(19,26),(20,26),(14,27),(15,27),(16,27),(17,27),(18,27),(19,27),(20,27)]
def a2f:ICode:= .region a2d a2e [2,3,6,118]
@[go_sem] def a2b:Ops:=[
bb6 4 false]
def a2c:=rg a2b [4]
@[go_sem] def a19:Ops:=[
bcl 87 6,bb8 88 .add 87 1,bcr 6 88]
def a2a:=rg a19 [2,3,6]
def a8r:ICode:=(.seq (.seq ah4 (.cond (.t 86) .skip (.exit 2))) (.seq (.block 3 (.seq a2f (.cond (.t 118) (.seq a2c .ret) .skip))) a2a))
def a96:=bce a8r.eq_1
def a18:=rg [
bb7 7 0] [2,3,7]
def ah3:=rg [
bcl 119 7,bcb 120 10 2,bcj 121 120,bci 122 false 121,bb9 123 .lss 119 122] [2,3,7,123]
def ah2:=rg [
bcb 126 10 2,bcj 127 126,bcl 128 7,bcg 129 15 127 128,bck 130 15 129,oo 8 (.alloc [(.int .i64 0),(.bool false),(.bool false),(.bool false),(.int .i64 0),(.int .i64 0),.nilS,.nilS,(.bool false),(.int .i64 0),(.int .i64 0),.nilS,.nilS,(.bool false),(.int .i64 0)]),bcq 15 8 130] [2,3,7,8]
def ah1:=rg [
bcb 131 10 3,bcj 132 131,bcl 133 7,bcg 134 15 132 133,bck 135 15 134,oo 9 (.alloc [(.int .i64 0),(.bool false),(.bool false),(.bool false),(.int .i64 0),(.int .i64 0),.nilS,.nilS,(.bool false),(.int .i64 0),(.int .i64 0),.nilS,.nilS,(.bool false),(.int .i64 0)]),bcq 15 9 135] [2,3,7,8,9]
def ah0:=rg [
bcb 136 0 8,bcj 137 136,bcb 138 0 9,bcj 139 138,bb9 140 .neq 137 139,bcl 141 140,og 142 141 false (.fieldA 1 (.t 8)),og 143 141 false (.load none (.t 142)),og 144 141 false (.fieldA 1 (.t 9)),og 145 141 false (.load none (.t 144)),og 146 141 false (.eqn true .bool (.t 143) (.t 145)),bcp 147 141 146,bcl 148 147,og 149 148 false (.fieldA 2 (.t 8)),og 150 148 false (.load none (.t 149)),og 151 148 false (.fieldA 2 (.t 9)),og 152 148 false (.load none (.t 151)),og 153 148 false (.eqn true .bool (.t 150) (.t 152)),bcp 154 148 153,bcl 155 154,og 156 155 false (.fieldA 13 (.t 8)),og 157 155 false (.load none (.t 156)),og 158 155 false (.fieldA 13 (.t 9)),og 159 155 false (.load none (.t 158)),og 160 155 false (.eqn true .bool (.t 157) (.t 159)),bcp 161 155 160,bcl 162 161,og 163 162 false (.fieldA 14 (.t 8)),og 164 162 false (.load none (.t 163)),og 165 162 false (.fieldA 14 (.t 9)),og 166 162 false (.load none (.t 165)),og 167 162 false (.bin .neq (.t 164) (.t 166)),bcp 168 162 167,bcl 169 168,og 170 169 false (.fieldA 3 (.t 8)),og 171 169 false (.load (some 5) (.t 170)),og 172 169 false (.fieldA 3 (.t 9)),og 173 169 false (.load (some 5) (.t 172)),og 174 169 false (.call false n_bm [(.t 171),(.t 173)]),og 175 169 false (.un .not (.t 174)),bcp 176 169 175,bcl 177 176,og 178 177 false (.fieldA 8 (.t 8)),og 179 177 false (.load (some 5) (.t 178)),og 180 177 false (.fieldA 8 (.t 9)),og 181 177 false (.load (some 5) (.t 180)),og 182 177 false (.call false n_bm [(.t 179),(.t 181)]),og 183 177 false (.un .not (.t 182)),bcp 184 177 183] [2,3,7,184]
@[go_sem] def a16:Ops:=[
bb6 4 false]
def a17:=rg a16 [4]
def ahz:=rg [
bcl 124 7,bb8 125 .add 124 1,bcr 7 125] [2,3,7]
def akt:ICode:=(.seq (.seq ah3 (.cond (.t 123) .skip (.exit 4))) (.seq (.block 5 (.seq (.seq (.free 8) ah2) (.seq (.seq (.free 9) ah1) (.seq ah0 (.cond (.t 184) (.seq a17 .ret) .skip))))) ahz))
def a97:=bce akt.eq_1
def ahy:=rg [
bb6 4 true] [4]
def c_ai:ICode:=(.seq r_ai_0 (.seq r_ai_1 (.cond (.t 63) (.seq r_ai_2 .ret) (.seq (.seq r_ai_3 (.block 0 (.loop b_ai_8))) (.seq (.seq r_ai_9 (.block 2 (.loop a8r))) (.seq (.seq a18 (.block 4 (.loop akt))) (.seq ahy .ret)))))))
def i_ai:IFunc:=⟨2,[.t 4],c_ai⟩
def a_ai:Advice:=⟨[],bch [(15,a18),(4,a15),(3,r_ai_3),(1,r_ai_1),(0,r_ai_0)]++[(20,[4]),(19,[4]),(18,[2,3,7,184]),(17,[2,3,7,8,9]),(16,[2,3,7,8]),(14,[2,3,7,123]),(13,[2,3,7]),(10,[2,3,6]),(12,[4]),(11,[2,3,6,118]),(9,[2,3,6,86]),(8,[2,3,6]),(5,[2,3,5]),(7,[4]),(6,[2,3,5,81]),(2,[4])],[],[(16,[8]),(17,[9])],[],[]⟩
def r_bt_0:=rg [
bb6 2 false] [0]
def r_bt_1:=rg [
bcl 3 0,bb8 4 .eql 3 7,bcl 5 4,bcd 6 5 false 0,og 7 5 false (.bin .eql (.t 6) (ci 16)),bcp 8 5 7,bcl 9 8,bcd 10 9 false 0,og 11 9 false (.bin .eql (.t 10) (ci 17)),bcp 12 9 11,bcl 13 12,bcd 14 13 false 0,og 15 13 false (.bin .eql (.t 14) (ci 8)),bcp 16 13 15,bcr 2 16] [2]
def c_bt:ICode:=(.seq r_bt_0 (.seq r_bt_1 .ret))
def i_bt:IFunc:=⟨1,[.t 2],c_bt⟩
def a_bt:=zzy (zzz 1 [r_bt_1,r_bt_0])
def r_bu_0:=rg [
bb6 2 false] [0]
def r_bu_1:=rg [
bcl 3 0,bca 4 n_bt [(.t 3)],bcl 5 4,bcd 6 5 true 0,og 7 5 true (.bin .neq (.t 6) (ci 8)),bco 8 5 7,bcr 2 8] [2]
def c_bu:ICode:=(.seq r_bu_0 (.seq r_bu_1 .ret))
def i_bu:IFunc:=⟨1,[.t 2],c_bu⟩
def a_bu:=zzy (zzz 1 [r_bu_1,r_bu_0])
@[go_sem] def r_ce_0_o:Ops:=[
oo 2 (.asg (.c (.int .u64 0)))]
def r_ce_0:=rg r_ce_0_o [0]
@[go_sem] def r_ce_1_o:Ops:=[
bcl 3 0,bb8 4 .lss 3 0]
def r_ce_1:=rg r_ce_1_o [0,4]
@[go_sem] def r_ce_2_o:Ops:=[
bcl 5 0,bb8 6 .add 5 1,oo 7 (.bin .sub (ci 0) (.t 6)),oo 8 (.cvInt .u64 (.t 7)),oo 9 (.bin .shl (.t 8) (.c (.int .u64 1))),oo 10 (.bin .or (.t 9) (.c (.int .u64 1))),bcr 2 10]
def r_ce_2:=rg r_ce_2_o [2]
@[go_sem] def r_ce_3_o:Ops:=[
bcl 11 0,oo 12 (.cvInt .u64 (.t 11)),oo 13 (.bin .shl (.t 12) (.c (.int .u64 1))),bcr 2 13]
def r_ce_3:=rg r_ce_3_o [2]
def c_ce:ICode:=(.seq r_ce_0 (.seq r_ce_1 (.cond (.t 4) (.seq r_ce_2 .ret) (.seq r_ce_3 .ret))))
def i_ce:IFunc:=⟨1,[.t 2],c_ce⟩
def a_ce:=zzy ([(3,[2]),(2,[2]),(1,[0,4]),(0,[0])])
def r_bw_0:=rg [
bb6 2 false] [0]
def r_bw_1:=rg [
bcl 3 0,bb8 4 .geq 3 1,bcl 5 4,bcd 6 5 true 0,og 7 5 true (.bin .leq (.t 6) (ci 4)),bco 8 5 7,bcr 2 8] [2]
def c_bw:ICode:=(.seq r_bw_0 (.seq r_bw_1 .ret))
def i_bw:IFunc:=⟨1,[.t 2],c_bw⟩
def a_bw:=zzy (zzz 1 [r_bw_1,r_bw_0])
def r_aa_0:=rg [
oo 2 (.box 6 (.t 0)),oo 3 (.box 15 (.t 1)),oo 4 (.asg (.c .nilS))] [2,3]
def r_aa_1:=rg [
bcb 9 0 3,bcj 10 9,oo 11 (.cvInt .u64 (.t 10)),oo 12 (.callg true n_bf [(.c .nilS),(ci 1),(.t 11)] 0),bcr 5 12] [2,3,5]
def r_aa_2:=rg [
oo 6 (.asg (.c .nilS))] [2,3,5,6]
def r_aa_3:=rg [
bb7 7 0] [2,3,5,6,7]
def r_aa_4:=rg [
bcb 14 0 2,bcj 15 14,bca 16 n_bw [(.t 15)],bcr 13 16] [2,3,5,6,7,13]
def r_aa_5:=rg [
bb7 7 2] [3,5,6,7]
def r_aa_6:=rg [
bcb 17 2 3,bcj 18 17] [3,5,6,7,18]
@[go_sem] def r_aa_7_o:Ops:=[
bcl 19 6,bcb 20 3 3,bcb 21 1 20,bcj 22 21,oo 23 (.callg true n_co [(.t 19),(ci 1),(.t 22)] 0),bcb 24 8 3,bcb 25 1 24,bcj 26 25,oo 27 (.callg true n_co [(.t 23),(ci 2),(.t 26)] 0),bcr 6 27]
def r_aa_7_n:List (Nat×Nat):=[(0,1),(0,2),(0,3),(0,5),(1,5),(2,5),(3,5),(4,5),(0,6),(1,6),(2,6),(3,6),(4,6),(0,7),(1,7),(2,7),(3,7),(4,7)]
def r_aa_7:ICode:= .region r_aa_7_o r_aa_7_n [3,5,6,7]
def r_aa_8:=rg [
bcb 28 13 3,bcj 29 28] [3,5,6,7,29]
@[go_sem] def r_aa_9_o:Ops:=[
bcl 30 6,bcb 31 14 3,bcj 32 31,oo 33 (.callg true n_co [(.t 30),(ci 3),(.t 32)] 0),bcr 6 33]
def r_aa_9:=rg r_aa_9_o [3,5,6,7]
def a5m:=rg [
bcb 35 0 2,bcj 36 35,bca 37 n_bu [(.t 36)],bcr 34 37] [2,3,5,6,7,34]
def a5l:=rg [
bb7 7 4] [3,5,6,7]
def a5k:=rg [
bcb 38 2 3,bcj 39 38] [3,5,6,7,39]
@[go_sem] def a5i:Ops:=[
bcl 40 6,bcb 41 3 3,bcb 42 3 41,bcj 43 42,oo 44 (.callg true n_ba [(.t 40),(ci 1),(.t 43)] 0),bcb 45 8 3,bcb 46 3 45,bcj 47 46,oo 48 (.callg true n_ba [(.t 44),(ci 2),(.t 47)] 0),bcr 6 48]
def a5j:List (Nat×Nat):=[(0,1),(0,2),(0,3),(0,5),(1,5),(2,5),(3,5),(4,5),(0,6),(1,6),(2,6),(3,6),(4,6),(0,7),(1,7),(2,7),(3,7),(4,7)]
def r_aa_13:ICode:= .region a5i a5j [3,5,6,7]
def a5h:=rg [
bcb 49 13 3,bcj 50 49] [3,5,6,7,50]
@[go_sem] def a5g:Ops:=[
bcl 51 6,bcb 52 14 3,bcj 53 52,oo 54 (.callg true n_co [(.t 51),(ci 3),(.t 53)] 0),bcr 6 54]
def r_aa_15:=rg a5g [3,5,6,7]
def a5f:=rg [
bcb 56 0 2,bcj 57 56,bb8 58 .eql 57 0,bcr 55 58] [2,3,5,6,7,55]
def a5e:=rg [
bb7 7 5] [3,5,6,7]
def a5d:=rg [
bcb 59 13 3,bcj 60 59] [3,5,6,7,60]
@[go_sem] def a5c:Ops:=[
bcl 61 6,bcb 62 14 3,bcj 63 62,oo 64 (.cvInt .u64 (.t 63)),oo 65 (.callg false n_bc [(.c .nilS),(.t 64)] 0),oo 66 (.callg true n_ba [(.t 61),(ci 1),(.t 65)] 0),bcr 6 66]
def r_aa_19:=rg a5c [3,5,6,7]
def a5b:=rg [
bcb 68 0 2,bcj 69 68,bb8 70 .eql 69 14,bcr 67 70] [2,3,5,6,7,67]
def a5a:=rg [
bb7 7 6] [2,3,5,6,7]
def a49:=rg [
bcb 71 2 3,bcj 72 71] [2,3,5,6,7,72]
@[go_sem] def a47:Ops:=[
bcl 73 6,bcb 74 3 3,bcb 75 1 74,bcj 76 75,bcb 77 5 2,bcj 78 77,bca 79 n_dc [(.t 76),(.t 78)],oo 80 (.s2b false (.t 79)),oo 81 (.callg true n_ba [(.t 73),(ci 1),(.t 80)] 0),bcb 82 8 3,bcb 83 1 82,bcj 84 83,bcb 85 5 2,bcj 86 85,bca 87 n_dc [(.t 84),(.t 86)],oo 88 (.s2b false (.t 87)),oo 89 (.callg true n_ba [(.t 81),(ci 2),(.t 88)] 0),bcr 6 89]
def a48:List (Nat×Nat):=[(0,1),(0,2),(0,3),(0,4),(1,4),(2,4),(3,4),(0,5),(1,5),(2,5),(3,5),(0,6),(0,7),(0,9),(1,9),(2,9),(3,9),(4,9),(5,9),(6,9),(7,9),(8,9),(0,10),(1,10),(2,10),(3,10),(4,10),(5,10),(6,10),(7,10),(8,10),(0,11),(1,11),(2,11),(3,11),(4,11),(5,11),(6,11),(7,11),(8,11),(0,12),(1,12),(2,12),(3,12),(4,12),(5,12),(6,12),(7,12),(8,12),(9,12),(10,12),(11,12),(0,13),(1,13),(2,13),(3,13),(4,13),(5,13),(6,13),(7,13),(8,13),(9,13),(10,13),(11,13)]
def r_aa_23:ICode:= .region a47 a48 [2,3,5,6,7]
def a46:=rg [
bcb 90 13 3,bcj 91 90] [2,3,5,6,7,91]
@[go_sem] def a45:Ops:=[
bcl 92 6,bcb 93 14 3,bcj 94 93,bcb 95 5 2,bcj 96 95,bca 97 n_dc [(.t 94),(.t 96)],oo 98 (.s2b false (.t 97)),oo 99 (.callg true n_ba [(.t 92),(ci 3),(.t 98)] 0),bcr 6 99]
def r_aa_25:=rg a45 [3,5,6,7]
def a44:=rg [
bcb 101 0 2,bcj 102 101,bb8 103 .eql 102 15,bcr 100 103] [2,3,5,6,7,100]
def a43:=rg [
bb7 7 7] [3,5,6,7]
def a42:=rg [
bcb 104 2 3,bcj 105 104] [3,5,6,7,105]
@[go_sem] def a40:Ops:=[
bcl 106 6,bcb 107 3 3,bcb 108 1 107,bcj 109 108,oo 110 (.callg true n_co [(.t 106),(ci 1),(.t 109)] 0),bcb 111 8 3,bcb 112 1 111,bcj 113 112,oo 114 (.callg true n_co [(.t 110),(ci 2),(.t 113)] 0),bcr 6 114]
def a41:List (Nat×Nat):=[(0,1),(0,2),(0,3),(0,5),(1,5),(2,5),(3,5),(4,5),(0,6),(1,6),(2,6),(3,6),(4,6),(0,7),(1,7),(2,7),(3,7),(4,7)]
def r_aa_29:ICode:= .region a40 a41 [3,5,6,7]
def a4z:=rg [
bcb 116 0 2,bcj 117 116,bb8 118 .eql 117 8,bcr 115 118] [2,3,5,6,7,115]
def a4y:=rg [
bb7 7 8] [3,5,6,7]
def a4x:=rg [
bcb 119 13 3,bcj 120 119] [3,5,6,7,120]
@[go_sem] def a4w:Ops:=[
bcl 121 6,bcb 122 14 3,bcj 123 122,oo 124 (.callg true n_co [(.t 121),(ci 1),(.t 123)] 0),bcr 6 124]
def r_aa_33:=rg a4w [3,5,6,7]
def a4v:=rg [
bcb 126 0 2,bcj 127 126,bb8 128 .eql 127 9,bcr 125 128] [3,5,6,7,125]
def a4u:=rg [
bb7 7 9] [3,5,6,7]
def a4t:=rg [
bcb 129 2 3,bcj 130 129] [3,5,6,7,130]
@[go_sem] def a4r:Ops:=[
bcl 131 6,bcb 132 3 3,bcb 133 1 132,bcj 134 133,oo 135 (.callg true n_co [(.t 131),(ci 1),(.t 134)] 0),bcb 136 8 3,bcb 137 1 136,bcj 138 137,oo 139 (.callg true n_co [(.t 135),(ci 2),(.t 138)] 0),bcr 6 139]
def a4s:List (Nat×Nat):=[(0,1),(0,2),(0,3),(0,5),(1,5),(2,5),(3,5),(4,5),(0,6),(1,6),(2,6),(3,6),(4,6),(0,7),(1,7),(2,7),(3,7),(4,7)]
def r_aa_37:ICode:= .region a4r a4s [3,5,6,7]
@[go_sem] def a4p:Ops:=[
bcl 140 6,bcb 141 3 3,bcb 142 2 141,bcj 143 142,oo 144 (.cvInt .u64 (.t 143)),oo 145 (.callg true n_bf [(.t 140),(ci 3),(.t 144)] 0),bcb 146 8 3,bcb 147 2 146,bcj 148 147,oo 149 (.cvInt .u64 (.t 148)),oo 150 (.callg true n_bf [(.t 145),(ci 4),(.t 149)] 0),bcr 6 150]
def a4q:List (Nat×Nat):=[(0,1),(0,2),(0,3),(0,4),(0,6),(1,6),(2,6),(3,6),(4,6),(5,6),(0,7),(1,7),(2,7),(3,7),(4,7),(5,7),(0,8),(1,8),(2,8),(3,8),(4,8),(5,8),(0,9),(1,9),(2,9),(3,9),(4,9),(5,9)]
def r_aa_38:ICode:= .region a4p a4q [3,5,6,7]
def a4o:=rg [
bcl 151 7,bb8 152 .gtr 151 0,bcl 153 152,og 154 153 true (.fieldA 2 (.t 3)),og 155 153 true (.load none (.t 154)),bcd 156 153 true 155,og 157 156 false (.fieldA 13 (.t 3)),og 158 156 false (.load none (.t 157)),og 159 153 true (.pick (.t 156) (.c (.bool true)) (.t 158)),bco 160 153 159] [3,5,6,7,160]
@[go_sem] def a4n:Ops:=[
bcl 161 5,bcl 162 7,bcl 163 6,oo 164 (.callg true n_ba [(.t 161),(.t 162),(.t 163)] 0),bcr 5 164]
def r_aa_40:=rg a4n [3,5]
def a4m:=rg [
oo 8 (.asg (.c (.int .u64 0)))] [3,5,8]
def a4l:=rg [
bcb 165 1 3,bcj 166 165] [5,8,166]
@[go_sem] def a4k:Ops:=[
oo 8 (.asg (.c (.int .u64 1)))]
def r_aa_43:=rg a4k [5,8]
def a4j:=rg [
bcl 167 5,bcl 168 8,oo 169 (.callg true n_bf [(.t 167),(ci 10),(.t 168)] 0),bcr 4 169] [4]
def c_aa:ICode:=(.seq r_aa_0 (.seq r_aa_1 (.seq r_aa_2 (.seq r_aa_3 (.seq (.block 0 (.seq r_aa_4 (.cond (.t 13) (.seq r_aa_5 (.seq (.seq r_aa_6 (.cond (.t 18) r_aa_7 .skip)) (.seq r_aa_8 (.cond (.t 29) r_aa_9 .skip)))) (.seq a5m (.cond (.t 34) (.seq a5l (.seq (.seq a5k (.cond (.t 39) r_aa_13 .skip)) (.seq a5h (.cond (.t 50) r_aa_15 .skip)))) (.seq a5f (.cond (.t 55) (.seq a5e (.seq a5d (.cond (.t 60) r_aa_19 .skip))) (.seq a5b (.cond (.t 67) (.seq a5a (.seq (.seq a49 (.cond (.t 72) r_aa_23 .skip)) (.seq a46 (.cond (.t 91) r_aa_25 .skip)))) (.seq a44 (.cond (.t 100) (.seq a43 (.seq a42 (.cond (.t 105) r_aa_29 .skip))) (.seq a4z (.cond (.t 115) (.seq a4y (.seq a4x (.cond (.t 120) r_aa_33 .skip))) (.seq a4v (.cond (.t 125) (.seq a4u (.seq a4t (.cond (.t 130) (.seq r_aa_37 r_aa_38) .skip))) .skip))))))))))))))) (.seq (.seq a4o (.cond (.t 160) (.seq (.demote [6]) r_aa_40) .skip)) (.seq a4m (.seq (.seq a4l (.cond (.t 166) r_aa_43 .skip)) (.seq a4j .ret)))))))))
def i_aa:IFunc:=⟨2,[.t 4],c_aa⟩
def a_aa:Advice:=⟨[12,23,27,33,44,48,54,66,81,89,99,110,114,124,135,139,145,150,164,169],zzz 44 [a4j,.ret,a4l,a4m,.ret,a4o,.ret,.ret,a4t,a4u,a4v,.ret,a4x,a4y,a4z,.ret,a42,a43,a44,.ret,a46,.ret,a49,a5a,a5b,.ret,a5d,a5e,a5f,.ret,a5h,.ret,a5k,a5l,a5m,.ret,r_aa_8,.ret,r_aa_6,r_aa_5,r_aa_4,r_aa_3,r_aa_2,r_aa_1,r_aa_0]++[(43,[5,8]),(40,[3,5]),(9,[3,5,6,7]),(7,[3,5,6,7]),(15,[3,5,6,7]),(13,[3,5,6,7]),(19,[3,5,6,7]),(25,[3,5,6,7]),(23,[2,3,5,6,7]),(29,[3,5,6,7]),(33,[3,5,6,7]),(38,[3,5,6,7]),(37,[3,5,6,7])],[(40,[6])],[],[(12,0),(23,0),(27,0),(33,0),(44,0),(48,0),(54,0),(65,0),(66,0),(81,0),(89,0),(99,0),(110,0),(114,0),(124,0),(135,0),(139,0),(145,0),(150,0),(164,0),(169,0)],[]⟩
def r_ab_0:=rg [
oo 3 (.box 6 (.t 1)),oo 4 (.asg (.c .nilS))] [0,3]
def r_ab_1:=rg [
bck 13 6 3,bca 14 n_bl [(.t 13)],bcr 5 14] [0,5]
def r_ab_2:=rg [
bb7 6 0] [0,5,6]
def a4i:=rg [
bcl 15 6,bcl 16 5,bci 17 false 16,bb9 18 .lss 15 17] [0,5,6,18]
def a4h:=rg [
bcl 21 5,bcl 22 6,bcg 23 9 21 22,bcb 24 0 23,bcb 25 0 24,bcj 26 25,oo 27 (.cvInt .u64 (.t 26)),oo 28 (.callg true n_bf [(.c .nilS),(ci 1),(.t 27)] 0),bcr 7 28] [0,5,6,7]
def a4g:=rg [
oo 8 (.asg (.c .nilS))] [0,5,6,7,8]
def a4f:=rg [
bb7 9 0] [0,5,6,7,8,9]
def a4e:=rg [
bcl 29 9,bcl 30 5,bcl 31 6,bcg 32 9 30 31,bcb 33 6 32,bcj 34 33,bci 35 false 34,bb9 36 .lss 29 35] [0,5,6,7,8,9,36]
def a4d:=rg [
bcl 39 8,bcl 40 5,bcl 41 6,bcg 42 9 40 41,bcb 43 6 42,bcj 44 43,bcl 45 9,bcg 46 1 44 45,bcj 47 46,oo 48 (.cvInt .u64 (.t 47)),oo 49 (.callg true n_bc [(.t 39),(.t 48)] 0),bcr 8 49] [0,5,6,7,8,9]
def a4c:=rg [
bcl 37 9,bb8 38 .add 37 1,bcr 9 38] [0,5,6,7,8,9]
def t8:ICode:=(.seq (.seq a4e (.cond (.t 36) .skip (.exit 2))) (.seq (.block 3 a4d) a4c))
def a98:=bce t8.eq_1
def ai3:=rg [
bcl 50 8,bci 51 false 50,bb8 52 .gtr 51 0] [0,5,6,7,8,52]
def ai2:=rg [
bcl 53 7,bcl 54 8,oo 55 (.callg true n_ba [(.t 53),(ci 2),(.t 54)] 0),bcr 7 55] [0,5,6,7]
def ai1:=rg [
bb7 10 0] [0,5,6,7,10]
def ai0:=rg [
bcl 56 10,bcl 57 5,bcl 58 6,bcg 59 9 57 58,bcb 60 0 59,bcb 61 1 60,bcj 62 61,bci 63 false 62,bb9 64 .lss 56 63] [0,5,6,7,10,64]
def aiz:=rg [
bcl 67 7,bcl 68 5,bcl 69 6,bcg 70 9 68 69,bcb 71 0 70,bcb 72 1 71,bcj 73 72,bcl 74 10,bcg 75 1 73 74,bcj 76 75,oo 77 (.s2b false (.t 76)),oo 78 (.callg true n_ba [(.t 67),(ci 3),(.t 77)] 0),bcr 7 78] [0,5,6,7,10]
def aiy:=rg [
bcl 65 10,bb8 66 .add 65 1,bcr 10 66] [0,5,6,7,10]
def qi:ICode:=(.seq (.seq ai0 (.cond (.t 64) .skip (.exit 4))) (.seq (.block 5 aiz) aiy))
def a99:=bce qi.eq_1
def te:=rg [
bb7 11 0] [0,5,6,7,11]
def aix:=rg [
bcl 79 11,bb8 80 .lss 79 3] [0,5,6,7,11,80]
@[go_sem] def ack:Ops:=[
bcl 83 5,bcl 84 6,bcg 85 9 83 84,bcb 86 0 85,bcb 87 3 86,bcj 88 87,bcl 89 5,bcl 90 6,bcg 91 9 89 90,bcb 92 0 91,bcb 93 4 92,bcj 94 93,bcl 95 5,bcl 96 6,bcg 97 9 95 96,bcb 98 0 97,bcb 99 5 98,bcj 100 99,oo 101 (.lit false 1 3 (.int .i64 0) [(0,(.t 88)),(1,(.t 94)),(2,(.t 100))]),bcl 102 11,bcg 103 1 101 102,bcj 104 103,bcr 12 104]
def acl:List (Nat×Nat):=[(0,1),(0,6),(1,6),(2,6),(3,6),(4,6),(5,6),(0,7),(1,7),(2,7),(3,7),(4,7),(5,7),(6,7),(0,8),(1,8),(2,8),(3,8),(4,8),(5,8),(0,9),(1,9),(2,9),(3,9),(4,9),(5,9),(0,10),(1,10),(2,10),(3,10),(4,10),(5,10),(0,11),(1,11),(2,11),(3,11),(4,11),(5,11),(0,12),(1,12),(2,12),(3,12),(4,12),(5,12),(6,12),(7,12),(8,12),(9,12),(10,12),(11,12),(0,13),(1,13),(2,13),(3,13),(4,13),(5,13),(6,13),(7,13),(8,13),(9,13),(10,13),(11,13),(12,13),(0,14),(1,14),(2,14),(3,14),(4,14),(5,14),(6,14),(7,14),(8,14),(9,14),(10,14),(11,14),(0,15),(1,15),(2,15),(3,15),(4,15),(5,15),(6,15),(7,15),(8,15),(9,15),(10,15),(11,15),(0,16),(1,16),(2,16),(3,16),(4,16),(5,16),(6,16),(7,16),(8,16),(9,16),(10,16),(11,16),(0,17),(1,17),(2,17),(3,17),(4,17),(5,17),(6,17),(7,17),(8,17),(9,17),(10,17),(11,17),(0,19),(1,19),(2,19),(3,19),(4,19),(5,19),(6,19),(7,19),(8,19),(9,19),(10,19),(11,19),(12,19),(13,19),(14,19),(15,19),(16,19),(17,19),(18,19)]
def aiw:ICode:= .region ack acl [0,5,6,7,11,12]
@[go_sem] theorem r_ab_20_u:Gu X K s aiw acl ack [0,5,6,7,11,12]:=go_regionU' _ _ _ _
def aiv:=rg [
bcl 105 12,bb8 106 .neq 105 0] [0,5,6,7,11,12,106]
def aiu:=rg [
bcl 107 7,bcl 108 11,oo 109 (.bin .add (ci 4) (.t 108)),bcl 110 12,oo 111 (.cvInt .u64 (.t 110)),oo 112 (.callg true n_bf [(.t 107),(.t 109),(.t 111)] 0),bcr 7 112] [0,5,6,7,11]
def ait:=rg [
bcl 81 11,bb8 82 .add 81 1,bcr 11 82] [0,5,6,7,11]
def fq:ICode:=(.seq (.seq aix (.cond (.t 80) .skip (.exit 6))) (.seq (.block 7 (.seq aiw (.seq aiv (.cond (.t 106) aiu .skip)))) ait))
def baa:=bce fq.eq_1
def td:=rg [
bcl 113 0,bcl 114 7,oo 115 (.callg true n_ba [(.t 113),(ci 4),(.t 114)] 0),bcr 0 115] [0,5,6]
def tc:=rg [
bcl 19 6,bb8 20 .add 19 1,bcr 6 20] [0,5,6]
def kf:ICode:=(.seq (.seq a4i (.cond (.t 18) .skip (.exit 0))) (.seq (.block 1 (.seq a4h (.seq a4g (.seq (.seq a4f (.block 2 (.loop t8))) (.seq (.seq ai3 (.cond (.t 52) ai2 .skip)) (.seq (.seq ai1 (.block 4 (.loop qi))) (.seq (.seq te (.block 6 (.loop fq))) td))))))) tc))
def bab:=bce kf.eq_1
def ais:=rg [
bcl 116 0,bcr 4 116] [4]
def c_ab:ICode:=(.seq r_ab_0 (.seq r_ab_1 (.seq (.seq r_ab_2 (.block 0 (.loop kf))) (.seq ais .ret))))
def i_ab:IFunc:=⟨2,[.t 4],c_ab⟩
def a_ab:Advice:=⟨[28,49,55,78,112,115],zzz 22 [aiu,aiv,.ret,.ret,.ret,.ret,aiy,aiz,ai0,ai1,ai2,ai3,.ret,a4c,.ret,.ret,.ret,.ret,.ret,a4i,r_ab_2,r_ab_1,r_ab_0]++[(24,[4]),(4,[0,5,6]),(23,[0,5,6]),(19,[0,5,6,7,11]),(20,[0,5,6,7,11,12]),(18,[0,5,6,7,11,80]),(17,[0,5,6,7,11]),(10,[0,5,6,7,8,9]),(8,[0,5,6,7,8,9,36]),(7,[0,5,6,7,8,9]),(6,[0,5,6,7,8]),(5,[0,5,6,7])],[],[],[(28,0),(49,0),(55,0),(78,0),(112,0),(115,0)],[]⟩
def r_ba_0:=rg [
oo 6 (.asg (.c .nilS))] [0,1,2]
def r_ba_1:=rg [
bcl 7 1,bca 8 n_bz [(.t 7)],bcn 9 8] [0,1,2,9]
@[go_sem] def r_ba_2_o:Ops:=[
bcl 10 0,bcr 6 10]
def r_ba_2:=rg r_ba_2_o [6]
def r_ba_3:=rg [
bcl 11 0,bcl 12 1,oo 13 (.cvInt .u64 (.t 12)),oo 14 (.bin .shl (.t 13) (.c (.int .u64 3))),oo 15 (.bin .or (.t 14) (.c (.int .u64 2))),oo 16 (.callg true n_bc [(.t 11),(.t 15)] 0),bcl 17 2,bci 18 false 17,oo 19 (.cvInt .u64 (.t 18)),oo 20 (.callg true n_bc [(.t 16),(.t 19)] 0),bcl 21 2,oo 22 (.append 1 1 (.t 20) (.t 21)),bcr 6 22] [6]
def c_ba:ICode:=(.seq r_ba_0 (.seq r_ba_1 (.cond (.t 9) (.seq r_ba_2 .ret) (.seq r_ba_3 .ret))))
def i_ba:IFunc:=⟨3,[.t 6],c_ba⟩
def a_ba:Advice:=⟨[16,20],zzz 3 [r_ba_3,.ret,r_ba_1,r_ba_0]++[(2,[6])],[],[],[(16,0),(20,0)],[]⟩
def r_bc_0:=rg [
oo 4 (.asg (.c .nilS))] [0,1]
def ayx:=rg [
bcl 5 1,oo 6 (.bin .geq (.t 5) (.c (.int .u64 128)))] [0,1,6]
def ayw:=rg [
bcl 7 0,bcl 8 1,oo 9 (.bin .and (.t 8) (.c (.int .u64 127))),oo 10 (.bin .or (.t 9) (.c (.int .u64 128))),oo 11 (.cvInt .u8 (.t 10)),oo 12 (.lit false 1 1 (.int .u8 0) [(0,(.t 11))]),oo 13 (.append 1 1 (.t 7) (.t 12)),bcr 0 13] [0,1]
def ayv:=rg [
bcl 14 1,oo 15 (.bin .shr (.t 14) (.c (.int .u64 7))),bcr 1 15] [0,1]
def a8o:ICode:=(.seq (.seq ayx (.cond (.t 6) .skip (.exit 0))) (.block 1 (.seq ayw ayv)))
def bac:=bce a8o.eq_1
def ayu:=rg [
bcl 16 0,bcl 17 1,oo 18 (.cvInt .u8 (.t 17)),oo 19 (.lit false 1 1 (.int .u8 0) [(0,(.t 18))]),oo 20 (.append 1 1 (.t 16) (.t 19)),bcr 4 20] [4]
def c_bc:ICode:=(.seq r_bc_0 (.seq (.block 0 (.loop a8o)) (.seq ayu .ret)))
def i_bc:IFunc:=⟨2,[.t 4],c_bc⟩
def a_bc:Advice:=⟨[13],zzz 3 [ayv,ayw,ayx,r_bc_0]++[(4,[4])],[],[],[],[]⟩
def r_bz_0:=rg [
bb6 2 false] [0]
def r_bz_1:=rg [
bcl 3 0,bb8 4 .geq 3 1,bcl 5 4,bcd 6 5 true 0,og 7 5 true (.bin .leq (.t 6) (ci 536870911)),bco 8 5 7,bcr 2 8] [2]
def c_bz:ICode:=(.seq r_bz_0 (.seq r_bz_1 .ret))
def i_bz:IFunc:=⟨1,[.t 2],c_bz⟩
def a_bz:=zzy (zzz 1 [r_bz_1,r_bz_0])
def r_bf_0:=rg [
oo 6 (.asg (.c .nilS))] [0,1,2]
def r_bf_1:=rg [
bcl 7 1,bca 8 n_bz [(.t 7)],bcn 9 8] [0,1,2,9]
@[go_sem] def r_bf_2_o:Ops:=[
bcl 10 0,bcr 6 10]
def r_bf_2:=rg r_bf_2_o [6]
def r_bf_3:=rg [
bcl 11 0,bcl 12 1,oo 13 (.cvInt .u64 (.t 12)),oo 14 (.bin .shl (.t 13) (.c (.int .u64 3))),oo 15 (.callg true n_bc [(.t 11),(.t 14)] 0),bcl 16 2,oo 17 (.callg true n_bc [(.t 15),(.t 16)] 0),bcr 6 17] [6]
def c_bf:ICode:=(.seq r_bf_0 (.seq r_bf_1 (.cond (.t 9) (.seq r_bf_2 .ret) (.seq r_bf_3 .ret))))
def i_bf:IFunc:=⟨3,[.t 6],c_bf⟩
def a_bf:Advice:=⟨[15,17],zzz 3 [r_bf_3,.ret,r_bf_1,r_bf_0]++[(2,[6])],[],[],[(15,0),(17,0)],[]⟩
@[go_sem] def r_cc_0_o:Ops:=[
bb6 2 false]
def r_cc_0:=rg r_cc_0_o [0]
@[go_sem] def r_cc_1_o:Ops:=[
bcl 3 0,bb8 4 .geq 3 0,bcl 5 4,bcd 6 5 true 0,og 7 5 true (.bin .leq (.t 6) (ci 262144)),bco 8 5 7,bcr 2 8]
def r_cc_1:=rg r_cc_1_o [2]
def c_cc:ICode:=(.seq r_cc_0 (.seq r_cc_1 .ret))
def i_cc:IFunc:=⟨1,[.t 2],c_cc⟩
def a_cc:=zzy ([(1,[2]),(0,[0])])
def r_ac_0:=rg [
oo 1 (.box 12 (.t 0)),oo 2 (.asg (.c .nilS)),bb7 3 0] [1]
def r_ac_1:=rg [
bcb 15 2 1,bck 16 6 15,bca 17 n_bp [(.t 16)],bb8 18 .neq 17 0] [1,18]
@[go_sem] def r_ac_2_o:Ops:=[
bcb 19 2 1,bck 20 6 19,bca 21 n_bp [(.t 20)],oo 2 (.asg (.c .nilS)),bcr 3 21]
def r_ac_2:=rg r_ac_2_o [2,3]
def r_ac_3:=rg [
bcb 22 2 1,bck 23 6 22,bca 24 n_bl [(.t 23)],bcr 4 24] [1,4]
def r_ac_4:=rg [
bcb 25 0 1,bcj 26 25,bca 27 n_cc [(.t 26)],bcl 28 27,og 29 28 true (.fieldA 9 (.t 1)),og 30 28 true (.load none (.t 29)),og 31 28 true (.call false n_cc [(.t 30)]),bco 32 28 31,bcl 33 32,og 34 33 true (.fieldA 11 (.t 1)),og 35 33 true (.load none (.t 34)),og 36 33 true (.call false n_cc [(.t 35)]),bco 37 33 36,bcl 38 37,og 39 38 true (.fieldA 1 (.t 1)),og 40 38 true (.load none (.t 39)),og 41 38 true (.len false (.t 40)),og 42 38 true (.bin .leq (.t 41) (ci 1024)),bco 43 38 42,bcl 44 43,og 45 44 true (.fieldA 8 (.t 1)),og 46 44 true (.load none (.t 45)),og 47 44 true (.len false (.t 46)),og 48 44 true (.bin .leq (.t 47) (ci 32)),bco 49 44 48,bcl 50 49,og 51 50 true (.fieldA 10 (.t 1)),og 52 50 true (.load none (.t 51)),og 53 50 true (.len false (.t 52)),bcd 54 50 true 4,og 55 50 true (.len false (.t 54)),og 56 50 true (.bin .eql (.t 53) (.t 55)),bco 57 50 56,bcr 5 57] [1,4,5]
def r_ac_5:=rg [
bb7 6 0] [1,4,5,6]
def a3e:=rg [
bcl 58 6,bcb 59 1 1,bcj 60 59,bci 61 false 60,bb9 62 .lss 58 61,bcl 63 62,bcd 64 63 true 5,bco 65 63 64] [1,4,5,6,65]
@[go_sem] def r_ac_7_o:Ops:=[
bcb 68 1 1,bcj 69 68,bcl 70 6,bcg 71 5 69 70,bck 72 5 71,oo 7 (.alloc [(.int .i64 0),(.int .i64 0),(.int .i64 0),(.int .i64 0),(.int .i64 0)]),bcq 5 7 72]
def r_ac_7:=rg r_ac_7_o [1,4,6,7]
@[go_sem] def r_ac_8_o:Ops:=[
bcb 73 0 7,bcj 74 73,bca 75 n_cc [(.t 74)],bcl 76 75,og 77 76 true (.fieldA 1 (.t 7)),og 78 76 true (.load none (.t 77)),og 79 76 true (.call false n_cc [(.t 78)]),bco 80 76 79,bcl 81 80,og 82 81 true (.fieldA 2 (.t 7)),og 83 81 true (.load none (.t 82)),og 84 81 true (.call false n_cc [(.t 83)]),bco 85 81 84,bcl 86 85,og 87 86 true (.fieldA 3 (.t 7)),og 88 86 true (.load none (.t 87)),og 89 86 true (.call false n_cc [(.t 88)]),bco 90 86 89,bcl 91 90,og 92 91 true (.fieldA 4 (.t 7)),og 93 91 true (.load none (.t 92)),og 94 91 true (.call false n_cc [(.t 93)]),bco 95 91 94,bcr 5 95]
def r_ac_8:=rg r_ac_8_o [1,4,5,6]
@[go_sem] def r_ac_9_o:Ops:=[
bcl 66 6,bb8 67 .add 66 1,bcr 6 67]
def r_ac_9:=rg r_ac_9_o [1,4,5,6]
def a8u:ICode:=(.seq (.seq a3e (.cond (.t 65) .skip (.exit 0))) (.seq (.block 1 (.seq (.seq (.free 7) r_ac_7) r_ac_8)) r_ac_9))
def bae:=bce a8u.eq_1
def a4b:=rg [
bcl 96 5,bcn 97 96] [1,4,97]
@[go_sem] def a4a:Ops:=[
oo 2 (.asg (.c .nilS)),bb7 3 1]
def r_ac_12:=rg a4a [2,3]
@[go_sem] def aca:Ops:=[
oo 98 (.callg true n_bf [(.c .nilS),(ci 1),(.c (.int .u64 3))] 0),bcb 99 0 1,bcj 100 99,oo 101 (.cvInt .u64 (.t 100)),oo 102 (.callg true n_bf [(.t 98),(ci 2),(.t 101)] 0),bcr 8 102]
def acb:List (Nat×Nat):=[(0,1),(0,2),(0,3)]
def a39:ICode:= .region aca acb [1,4,8]
@[go_sem] theorem r_ac_13_u:Gu X K s a39 acb aca [1,4,8]:=go_regionU' _ _ _ _
def a38:=rg [
bb7 9 0] [1,4,8,9]
def air:=rg [
bcl 103 9,bcb 104 1 1,bcj 105 104,bci 106 false 105,bb9 107 .lss 103 106] [1,4,8,9,107]
@[go_sem] def a36:Ops:=[
bcb 110 1 1,bcj 111 110,bcl 112 9,bcg 113 5 111 112,bck 114 5 113,oo 10 (.alloc [(.int .i64 0),(.int .i64 0),(.int .i64 0),(.int .i64 0),(.int .i64 0)]),bcq 5 10 114]
def a37:=rg a36 [1,4,8,9,10]
@[go_sem] def a34:Ops:=[
oo 11 (.asg (.c .nilS))]
def a35:=rg a34 [1,4,8,9,10,11]
@[go_sem] def a32:Ops:=[
bb7 12 0]
def a33:=rg a32 [1,4,8,9,10,11,12]
@[go_sem] def a30:Ops:=[
bcl 115 12,bb8 116 .lss 115 5]
def a31:=rg a30 [1,4,8,9,10,11,12,116]
@[go_sem] def a3y:Ops:=[
bcl 119 11,bcl 120 12,bb8 121 .add 120 1,bcb 122 0 10,bcj 123 122,bcb 124 1 10,bcj 125 124,bcb 126 2 10,bcj 127 126,bcb 128 3 10,bcj 129 128,bcb 130 4 10,bcj 131 130,oo 132 (.lit false 1 5 (.int .i64 0) [(0,(.t 123)),(1,(.t 125)),(2,(.t 127)),(3,(.t 129)),(4,(.t 131))]),bcl 133 12,bcg 134 1 132 133,bcj 135 134,oo 136 (.cvInt .u64 (.t 135)),oo 137 (.callg true n_bf [(.t 119),(.t 121),(.t 136)] 0),bcr 11 137]
def a3z:=rg a3y [1,4,8,9,10,11,12]
@[go_sem] def a3w:Ops:=[
bcl 117 12,bb8 118 .add 117 1,bcr 12 118]
def a3x:=rg a3w [1,4,8,9,10,11,12]
def aky:ICode:=(.seq (.seq a31 (.cond (.t 116) .skip (.exit 4))) (.seq (.block 5 a3z) a3x))
def baf:=bce aky.eq_1
@[go_sem] def a3u:Ops:=[
bcl 138 8,bcl 139 11,oo 140 (.callg true n_ba [(.t 138),(ci 3),(.t 139)] 0),bcr 8 140]
def a3v:=rg a3u [1,4,8,9]
@[go_sem] def a3s:Ops:=[
bcl 108 9,bb8 109 .add 108 1,bcr 9 109]
def a3t:=rg a3s [1,4,8,9]
def a8t:ICode:=(.seq (.seq air (.cond (.t 107) .skip (.exit 2))) (.seq (.block 3 (.seq (.seq (.free 10) a37) (.seq a35 (.seq (.seq a33 (.block 4 (.loop aky))) a3v)))) a3t))
def bag:=bce a8t.eq_1
def a3r:=rg [
bcl 141 8,bcb 142 2 1,bck 143 6 142,oo 144 (.callg true n_ab [(.t 141),(.t 143)] 0),bcr 8 144] [1,4,8]
def a3q:=rg [
bb7 13 0] [1,4,8,13]
def aiq:=rg [
bcl 145 13,bcb 146 8 1,bcj 147 146,bci 148 false 147,bb9 149 .lss 145 148] [1,4,8,13,149]
@[go_sem] def a3n:Ops:=[
bcl 152 8,bcb 153 8 1,bcj 154 153,bcl 155 13,bcg 156 2 154 155,bcb 157 0 156,bcj 158 157,oo 159 (.s2b false (.t 158)),oo 160 (.callg true n_ba [(.c .nilS),(ci 1),(.t 159)] 0),bcb 161 8 1,bcj 162 161,bcl 163 13,bcg 164 2 162 163,bcb 165 1 164,bcj 166 165,oo 167 (.callg false n_ba [(.t 160),(ci 2),(.t 166)] 0),oo 168 (.callg true n_ba [(.t 152),(ci 5),(.t 167)] 0),bcr 8 168]
def a3o:List (Nat×Nat):=[(0,1),(0,2),(0,3),(1,3),(2,3),(0,4),(0,5),(0,6),(0,7),(0,8),(0,9),(1,9),(2,9),(3,9),(4,9),(5,9),(6,9),(7,9),(8,9),(0,10),(1,10),(2,10),(3,10),(4,10),(5,10),(6,10),(7,10),(8,10),(0,11),(1,11),(2,11),(3,11),(4,11),(5,11),(6,11),(7,11),(8,11),(9,11),(10,11),(0,12),(1,12),(2,12),(3,12),(4,12),(5,12),(6,12),(7,12),(8,12),(0,13),(1,13),(2,13),(3,13),(4,13),(5,13),(6,13),(7,13),(8,13),(0,14),(1,14),(2,14),(3,14),(4,14),(5,14),(6,14),(7,14),(8,14),(0,15)]
def a3p:ICode:= .region a3n a3o [1,4,8,13]
@[go_sem] def a3l:Ops:=[
bcl 150 13,bb8 151 .add 150 1,bcr 13 151]
def a3m:=rg a3l [1,4,8,13]
def a8s:ICode:=(.seq (.seq aiq (.cond (.t 149) .skip (.exit 6))) (.seq (.block 7 a3p) a3m))
def bah:=bce a8s.eq_1
def a3k:=rg [
bcl 169 8,bcb 170 9 1,bcj 171 170,oo 172 (.cvInt .u64 (.t 171)),oo 173 (.callg true n_bf [(.t 169),(ci 6),(.t 172)] 0),bcr 8 173] [1,4,8]
def a3j:=rg [
bb7 14 0] [1,4,8,14]
def aip:=rg [
bcl 174 14,bcb 175 10 1,bcj 176 175,bci 177 false 176,bb9 178 .lss 174 177] [1,4,8,14,178]
@[go_sem] def ab0:Ops:=[
bcl 181 8,bcl 182 4,bcl 183 14,bcg 184 9 182 183,bcb 185 0 184,bck 186 6 185,bcb 187 10 1,bcj 188 187,bcl 189 14,bcg 190 15 188 189,bck 191 15 190,bca 192 n_aa [(.t 186),(.t 191)],oo 193 (.callg true n_ba [(.t 181),(ci 7),(.t 192)] 0),bcr 8 193]
def ab1:List (Nat×Nat):=[(0,1),(0,2),(1,2),(0,3),(0,4),(0,5),(0,6),(1,6),(2,6),(3,6),(4,6),(5,6),(0,7),(1,7),(2,7),(3,7),(4,7),(5,7),(0,8),(1,8),(2,8),(3,8),(4,8),(5,8),(6,8),(7,8),(0,9),(1,9),(2,9),(3,9),(4,9),(5,9),(0,10),(1,10),(2,10),(3,10),(4,10),(5,10),(0,11)]
def aio:ICode:= .region ab0 ab1 [1,4,8,14]
@[go_sem] theorem r_ac_35_u:Gu X K s aio ab1 ab0 [1,4,8,14]:=go_regionU' _ _ _ _
def ain:=rg [
bcl 179 14,bb8 180 .add 179 1,bcr 14 180] [1,4,8,14]
def akx:ICode:=(.seq (.seq aip (.cond (.t 178) .skip (.exit 8))) (.seq (.block 9 aio) ain))
def bai:=bce akx.eq_1
def a3i:=rg [
bcl 194 8,bcb 195 11 1,bcj 196 195,oo 197 (.cvInt .u64 (.t 196)),oo 198 (.callg true n_bf [(.t 194),(ci 8),(.t 197)] 0),bcr 8 198] [8]
def a3h:=rg [
bcl 199 8,bci 200 false 199,bb8 201 .gtr 200 65536] [8,201]
@[go_sem] def a3g:Ops:=[
oo 2 (.asg (.c .nilS)),bb7 3 4]
def r_ac_40:=rg a3g [2,3]
def a3f:=rg [
bcl 202 8,bcr 2 202,bb7 3 0] [2,3]
def c_ac:ICode:=(.seq r_ac_0 (.seq r_ac_1 (.cond (.t 18) (.seq r_ac_2 .ret) (.seq r_ac_3 (.seq r_ac_4 (.seq (.seq r_ac_5 (.block 0 (.loop a8u))) (.seq a4b (.cond (.t 97) (.seq r_ac_12 .ret) (.seq a39 (.seq (.seq a38 (.block 2 (.loop a8t))) (.seq a3r (.seq (.seq a3q (.block 6 (.loop a8s))) (.seq a3k (.seq (.seq a3j (.block 8 (.loop akx))) (.seq a3i (.seq a3h (.cond (.t 201) (.seq r_ac_40 .ret) (.seq a3f .ret))))))))))))))))))
def i_ac:IFunc:=⟨1,[.t 2,.t 3],c_ac⟩
def a_ac:Advice:=⟨[98,102,137,140,144,160,168,173,193,198],bch [(27,a3q),(6,a3e),(5,r_ac_5),(4,r_ac_4),(3,r_ac_3),(1,r_ac_1),(0,r_ac_0)]++[(36,[2,3]),(35,[2,3]),(34,[8,201]),(33,[8]),(31,[1,4,8,14]),(32,[1,4,8,14]),(30,[1,4,8,14,178]),(29,[1,4,8,14]),(28,[1,4,8]),(26,[1,4,8,13]),(25,[1,4,8,13,149]),(24,[1,4,8,13]),(23,[1,4,8]),(15,[1,4,8,9]),(22,[1,4,8,9]),(20,[1,4,8,9,10,11,12]),(21,[1,4,8,9,10,11,12]),(19,[1,4,8,9,10,11,12,116]),(18,[1,4,8,9,10,11,12]),(17,[1,4,8,9,10,11]),(16,[1,4,8,9,10]),(14,[1,4,8,9,107]),(13,[1,4,8,9]),(12,[1,4,8]),(11,[2,3]),(10,[1,4,97]),(7,[1,4,5,6]),(9,[1,4,5,6]),(8,[1,4,6,7]),(2,[2,3])],[],[(8,[7]),(16,[10])],[(98,0),(102,0),(137,0),(140,0),(144,0),(160,0),(167,0),(168,0),(173,0),(193,0),(198,0)],[]⟩
@[go_sem] def r_cl_0_o:Ops:=[
oo 1 (.box 15 (.t 0)),oo 2 (.alloc [(.int .i64 0),(.bool false),(.bool false),(.bool false),(.int .i64 0),(.int .i64 0),.nilS,.nilS,(.bool false),(.int .i64 0),(.int .i64 0),.nilS,.nilS,(.bool false),(.int .i64 0)])]
def r_cl_0:=rg r_cl_0_o [1,2]
@[go_sem] def r_cl_1_o:Ops:=[
bcb 3 0 1,bcj 4 3,bcb 5 1 1,bcj 6 5,bcb 7 2 1,bcj 8 7,bcb 9 3 1,bck 10 5 9,bcb 11 8 1,bck 12 5 11,bcb 13 13 1,bcj 14 13,bcb 15 14 1,bcj 16 15,oo 17 (.build [(.int .i64 0),(.bool false),(.bool false),(.bool false),(.int .i64 0),(.int .i64 0),.nilS,.nilS,(.bool false),(.int .i64 0),(.int .i64 0),.nilS,.nilS,(.bool false),(.int .i64 0)] [(0,1,(.t 4)),(1,1,(.t 6)),(2,1,(.t 8)),(3,5,(.t 10)),(8,5,(.t 12)),(13,1,(.t 14)),(14,1,(.t 16))]),bcq 15 2 17]
def r_cl_1:=rg r_cl_1_o [2]
def c_cl:ICode:=(.seq r_cl_0 (.seq r_cl_1 .ret))
def i_cl:IFunc:=⟨1,[.cell 2 (some 15)],c_cl⟩
def a_cl:=zzy ([(1,[2]),(0,[1,2])])
def r_a6_0:=rg [
oo 1 (.box 12 (.t 0)),oo 2 (.alloc [(.int .i64 0),.nilS,(.int .i64 0),.nilS,.nilS,(.int .i64 0),(.int .i64 0),(.int .i64 0),.nilS,(.int .i64 0),.nilS,(.int .i64 0)])] [1,2]
def r_a6_1:=rg [
bcb 7 0 1,bcj 8 7,bcb 9 2 1,bck 10 6 9,bcb 11 8 1,bcj 12 11,bcb 13 9 1,bcj 14 13,bcb 15 11 1,bcj 16 15,oo 17 (.build [(.int .i64 0),.nilS,(.int .i64 0),.nilS,.nilS,(.int .i64 0),(.int .i64 0),(.int .i64 0),.nilS,(.int .i64 0),.nilS,(.int .i64 0)] [(0,1,(.t 8)),(2,6,(.t 10)),(8,1,(.t 12)),(9,1,(.t 14)),(11,1,(.t 16))]),oo 3 (.alloc [(.int .i64 0),.nilS,(.int .i64 0),.nilS,.nilS,(.int .i64 0),(.int .i64 0),(.int .i64 0),.nilS,(.int .i64 0),.nilS,(.int .i64 0)]),bcq 12 3 17] [1,2,3]
def r_a6_2:=rg [
bb7 4 0] [1,2,3,4]
def a58:=rg [
bcl 18 4,bcb 19 1 1,bcj 20 19,bci 21 false 20,bb9 22 .lss 18 21] [1,2,3,4,22]
@[go_sem] def r_a6_4_o:Ops:=[
bcb 25 1 1,bcj 26 25,bcl 27 4,bcg 28 5 26 27,bck 29 5 28,oo 5 (.alloc [(.int .i64 0),(.int .i64 0),(.int .i64 0),(.int .i64 0),(.int .i64 0)]),bcq 5 5 29]
def r_a6_4:=rg r_a6_4_o [1,2,3,4,5]
@[go_sem] def r_a6_5_o:Ops:=[
bcb 30 1 3,bcj 31 30,bcb 32 0 5,bcj 33 32,bcb 34 1 5,bcj 35 34,bcb 36 2 5,bcj 37 36,bcb 38 3 5,bcj 39 38,bcb 40 4 5,bcj 41 40,oo 42 (.build [(.int .i64 0),(.int .i64 0),(.int .i64 0),(.int .i64 0),(.int .i64 0)] [(0,1,(.t 33)),(1,1,(.t 35)),(2,1,(.t 37)),(3,1,(.t 39)),(4,1,(.t 41))]),oo 43 (.lit false 5 1 (.agg [(.int .i64 0),(.int .i64 0),(.int .i64 0),(.int .i64 0),(.int .i64 0)]) [(0,(.t 42))]),oo 44 (.append 5 40 (.t 31) (.t 43)),bcb 45 1 3,bcq 1 45 44]
def r_a6_5:=rg r_a6_5_o [1,2,3,4]
@[go_sem] def r_a6_6_o:Ops:=[
bcl 23 4,bb8 24 .add 23 1,bcr 4 24]
def r_a6_6:=rg r_a6_6_o [1,2,3,4]
def b_a6_7:ICode:=(.seq (.seq a58 (.cond (.t 22) .skip (.exit 0))) (.seq (.block 1 (.seq (.seq (.free 5) r_a6_4) r_a6_5)) r_a6_6))
def baj:=bce b_a6_7.eq_1
def r_a6_8:=rg [
bb7 6 0] [1,2,3,6]
def a57:=rg [
bcl 46 6,bcb 47 10 1,bcj 48 47,bci 49 false 48,bb9 50 .lss 46 49] [1,2,3,6,50]
@[go_sem] def aec:Ops:=[
bcb 53 10 3,bcj 54 53,bcb 55 10 1,bcj 56 55,bcl 57 6,bcg 58 15 56 57,bck 59 15 58,bca 60 n_cl [(.t 59)],oo 61 (.lit false 15 1 (.agg [(.int .i64 0),(.bool false),(.bool false),(.bool false),(.int .i64 0),(.int .i64 0),(.sl []),(.sl []),(.bool false),(.int .i64 0),(.int .i64 0),(.sl []),(.sl []),(.bool false),(.int .i64 0)]) [(0,(.t 60))]),oo 62 (.append 15 176 (.t 54) (.t 61)),bcb 63 10 3,bcq 1 63 62]
def aed:List (Nat×Nat):=[(0,2),(1,2),(0,3),(1,3),(0,4),(1,4),(2,4),(3,4),(0,5),(1,5),(0,6),(1,6),(0,7),(1,7),(0,8),(1,8)]
def ajh:ICode:= .region aec aed [1,2,3,6]
@[go_sem] theorem r_a6_10_u:Gu X K s ajh aed aec [1,2,3,6]:=go_regionU' _ _ _ _
def ajg:=rg [
bcl 51 6,bb8 52 .add 51 1,bcr 6 52] [1,2,3,6]
def ak0:ICode:=(.seq (.seq a57 (.cond (.t 50) .skip (.exit 2))) (.seq (.block 3 ajh) ajg))
def bak:=bce ak0.eq_1
def a59:=rg [
bck 64 12 3,bcq 12 2 64] [2]
def c_a6:ICode:=(.seq r_a6_0 (.seq r_a6_1 (.seq (.seq r_a6_2 (.block 0 (.loop b_a6_7))) (.seq (.seq r_a6_8 (.block 2 (.loop ak0))) (.seq a59 .ret)))))
def i_a6:IFunc:=⟨1,[.cell 2 (some 12)],c_a6⟩
def a_a6:Advice:=⟨[44,62],zzz 3 [a58,r_a6_2,r_a6_1,r_a6_0]++[(11,[2]),(9,[1,2,3,6]),(10,[1,2,3,6]),(8,[1,2,3,6,50]),(7,[1,2,3,6]),(4,[1,2,3,4]),(6,[1,2,3,4]),(5,[1,2,3,4,5])],[],[(5,[5])],[],[]⟩
def r_bl_0:=rg [
oo 1 (.box 6 (.t 0)),oo 2 (.asg (.c .nilS))] [1]
def r_bl_1:=rg [
bck 3 6 1,bca 4 n_bp [(.t 3)],bb8 5 .neq 4 0] [1,5]
@[go_sem] def r_bl_2_o:Ops:=[
oo 2 (.asg (.c .nilS))]
def r_bl_2:=rg r_bl_2_o [2]
def r_bl_3:=rg [
bck 6 6 1,oo 7 (.callg true n_c9 [(.c .nilS),(.t 6),(ci (-1)),(ci 1)] 0),bcr 2 7] [2]
def c_bl:ICode:=(.seq r_bl_0 (.seq r_bl_1 (.cond (.t 5) (.seq r_bl_2 .ret) (.seq r_bl_3 .ret))))
def i_bl:IFunc:=⟨1,[.t 2],c_bl⟩
def a_bl:Advice:=⟨[7],zzz 3 [r_bl_3,.ret,r_bl_1,r_bl_0]++[(2,[2])],[],[],[(7,0)],[]⟩
def r_af_0:=rg [
oo 1 (.box 6 (.t 0)),bb7 2 0] [1]
def r_af_1:=rg [
bcb 8 0 1,bcj 9 8,bb8 10 .eql 9 5,bcl 11 10,og 12 11 false (.fieldA 0 (.t 1)),og 13 11 false (.load none (.t 12)),og 14 11 false (.bin .eql (.t 13) (ci 6)),bcp 15 11 14] [1,15]
def r_af_2:=rg [
bb7 2 5] [2]
def r_af_3:=rg [
bcb 16 0 1,bcj 17 16,bb8 18 .lss 17 0,bcl 19 18,og 20 19 false (.fieldA 0 (.t 1)),og 21 19 false (.load none (.t 20)),og 22 19 false (.bin .gtr (.t 21) (ci 17)),bcp 23 19 22] [1,23]
def r_af_4:=rg [
bb7 2 1] [2]
def r_af_5:=rg [
bcb 24 2 1,bcj 25 24,bci 26 false 25,bcr 3 26] [1,3]
def r_af_6:=rg [
bcl 27 3,bb8 28 .eql 27 0,bcr 4 28] [1,3,4]
def r_af_7:=rg [
bcb 29 0 1,bcj 30 29] [1,3,4,30]
def r_af_8:=rg [
bb8 32 .eql 30 10,bcr 31 32] [1,3,4,30,31]
def r_af_9:=rg [
bcl 33 3,bb8 34 .eql 33 1,bcr 4 34] [1,4]
def a3d:=rg [
bb8 36 .eql 30 11,bcr 35 36] [1,3,4,30,35]
def a3c:=rg [
bcl 37 3,bb8 38 .eql 37 2,bcr 4 38] [1,4]
def a3b:=rg [
bb8 40 .eql 30 12,bcr 39 40] [1,3,4,30,39]
def a3a:=rg [
bcl 41 3,bcb 42 1 1,bcj 43 42,bci 44 false 43,bb9 45 .eql 41 44,bcr 4 45] [1,4]
def a29:=rg [
bb8 47 .eql 30 13,bcr 46 47] [1,3,4,46]
def a28:=rg [
bcl 48 3,bb8 49 .geq 48 1,bcl 50 49,bcd 51 50 true 3,og 52 50 true (.bin .leq (.t 51) (ci 255)),bco 53 50 52,bcr 4 53] [1,4]
def a27:=rg [
bcl 54 4,bcn 55 54,bcl 56 55,og 57 56 false (.fieldA 0 (.t 1)),og 58 56 false (.load none (.t 57)),og 59 56 false (.bin .neq (.t 58) (ci 12)),bcd 60 56 false 59,og 61 60 true (.fieldA 1 (.t 1)),og 62 60 true (.load none (.t 61)),og 63 60 true (.len false (.t 62)),og 64 60 true (.bin .gtr (.t 63) (ci 0)),og 65 56 false (.pick (.t 60) (.t 64) (.c (.bool false))),bcp 66 56 65] [1,66]
def a26:=rg [
bb7 2 1] [2]
def a25:=rg [
bb7 5 0] [1,5]
def aim:=rg [
bcl 67 5,bcb 68 1 1,bcj 69 68,bci 70 false 69,bb9 71 .lss 67 70] [1,5,71]
def ail:=rg [
bcb 74 1 1,bcj 75 74,bcl 76 5,bcg 77 1 75 76,bcj 78 77,oo 79 (.bin .eql (.t 78) (.c (.str []))),bcl 80 79,og 81 80 false (.fieldA 1 (.t 1)),og 82 80 false (.load none (.t 81)),bcd 83 80 false 5,og 84 80 false (.idxA 1 (.t 82) (.t 83)),og 85 80 false (.load none (.t 84)),og 86 80 false (.len true (.t 85)),og 87 80 false (.bin .gtr (.t 86) (ci 100)),bcp 88 80 87] [1,5,88]
def aik:=rg [
bb7 2 1] [2]
def aij:=rg [
bb7 6 0] [1,5,6]
def aii:=rg [
bcl 89 6,bcl 90 5,bb9 91 .lss 89 90] [1,5,6,91]
@[go_sem] def abf:Ops:=[
bcb 94 1 1,bcj 95 94,bcl 96 6,bcg 97 1 95 96,bcj 98 97,bcb 99 1 1,bcj 100 99,bcl 101 5,bcg 102 1 100 101,bcj 103 102,bb9 104 .eql 98 103]
def abg:List (Nat×Nat):=[(0,2),(1,2),(0,5),(1,5),(2,5),(3,5),(4,5),(0,6),(1,6),(2,6),(3,6),(4,6),(0,7),(1,7),(2,7),(3,7),(4,7),(5,7),(6,7),(0,8),(1,8),(2,8),(3,8),(4,8),(0,9),(1,9),(2,9),(3,9),(4,9)]
def aih:ICode:= .region abf abg [1,5,6,104]
@[go_sem] theorem r_af_24_u:Gu X K s aih abg abf [1,5,6,104]:=go_regionU' _ _ _ _
def aig:=rg [
bb7 2 1] [2]
def aif:=rg [
bcl 92 6,bb8 93 .add 92 1,bcr 6 93] [1,5,6]
def t7:ICode:=(.seq (.seq aii (.cond (.t 91) .skip (.exit 3))) (.seq (.block 4 (.seq aih (.cond (.t 104) (.seq aig .ret) .skip))) aif))
def bal:=bce t7.eq_1
def aie:=rg [
bcl 72 5,bb8 73 .add 72 1,bcr 5 73] [1,5]
def akw:ICode:=(.seq (.seq aim (.cond (.t 71) .skip (.exit 1))) (.seq (.block 2 (.seq (.seq ail (.cond (.t 88) (.seq aik .ret) .skip)) (.seq aij (.block 3 (.loop t7))))) aie))
def bam:=bce akw.eq_1
def a24:=rg [
bcb 105 0 1,bcj 106 105,bb8 107 .eql 106 16,bcl 108 107,og 109 108 false (.fieldA 0 (.t 1)),og 110 108 false (.load none (.t 109)),og 111 108 false (.bin .eql (.t 110) (ci 17)),bcp 112 108 111,bcr 7 112] [1,7]
def a23:=rg [
bcl 113 7,bcl 114 113,og 115 114 true (.fieldA 3 (.t 1)),og 116 114 true (.load none (.t 115)),og 117 114 true (.bin .lss (.t 116) (ci 1)),bcd 118 114 true 117,og 119 118 false (.fieldA 3 (.t 1)),og 120 118 false (.load none (.t 119)),og 121 118 false (.bin .gtr (.t 120) (ci 4096)),og 122 114 true (.pick (.t 118) (.c (.bool true)) (.t 121)),bco 123 114 122,bcl 124 123,bcd 125 124 false 7,og 126 124 false (.un .not (.t 125)),bcd 127 124 false 126,og 128 127 true (.fieldA 3 (.t 1)),og 129 127 true (.load none (.t 128)),og 130 127 true (.bin .neq (.t 129) (ci 0)),og 131 124 false (.pick (.t 127) (.t 130) (.c (.bool false))),bcp 132 124 131] [1,132]
def a22:=rg [
bb7 2 1] [2]
def a21:=rg [
bcb 133 0 1,bcj 134 133,bb8 135 .eql 134 14] [1,135]
def a20:=rg [
bcb 136 4 1,bcj 137 136,bb8 138 .lss 137 1,bcl 139 138,og 140 139 false (.fieldA 4 (.t 1)),og 141 139 false (.load none (.t 140)),og 142 139 false (.bin .gtr (.t 141) (ci 18)),bcp 143 139 142,bcl 144 143,og 145 144 false (.fieldA 5 (.t 1)),og 146 144 false (.load none (.t 145)),og 147 144 false (.bin .lss (.t 146) (ci 0)),bcp 148 144 147,bcl 149 148,og 150 149 false (.fieldA 5 (.t 1)),og 151 149 false (.load none (.t 150)),og 152 149 false (.fieldA 4 (.t 1)),og 153 149 false (.load none (.t 152)),og 154 149 false (.bin .gtr (.t 151) (.t 153)),bcp 155 149 154] [155]
def a2z:=rg [
bb7 2 1] [2]
def a2y:=rg [
bcb 156 4 1,bcj 157 156,bb8 158 .neq 157 0,bcl 159 158,og 160 159 false (.fieldA 5 (.t 1)),og 161 159 false (.load none (.t 160)),og 162 159 false (.bin .neq (.t 161) (ci 0)),bcp 163 159 162] [163]
def a2x:=rg [
bb7 2 1] [2]
def a2w:=rg [
bb7 2 0] [2]
def c_af:ICode:=(.seq r_af_0 (.seq r_af_1 (.cond (.t 15) (.seq r_af_2 .ret) (.seq r_af_3 (.cond (.t 23) (.seq r_af_4 .ret) (.seq r_af_5 (.seq r_af_6 (.seq (.seq r_af_7 (.block 0 (.seq r_af_8 (.cond (.t 31) r_af_9 (.seq a3d (.cond (.t 35) a3c (.seq a3b (.cond (.t 39) a3a (.seq a29 (.cond (.t 46) a28 .skip)))))))))) (.seq a27 (.cond (.t 66) (.seq a26 .ret) (.seq (.seq a25 (.block 1 (.loop akw))) (.seq a24 (.seq a23 (.cond (.t 132) (.seq a22 .ret) (.seq (.seq a21 (.cond (.t 135) (.seq a20 (.cond (.t 155) (.seq a2z .ret) .skip)) (.seq a2y (.cond (.t 163) (.seq a2x .ret) .skip)))) (.seq a2w .ret))))))))))))))))
def i_af:IFunc:=⟨1,[.t 2],c_af⟩
def a_af:=zzy (zzz 35 [a2z,.ret,.ret,.ret,.ret,.ret,.ret,.ret,.ret,.ret,.ret,.ret,.ret,.ret,.ret,.ret,aim,a25,a26,a27,a28,a29,a3a,a3b,a3c,a3d,r_af_9,r_af_8,r_af_7,r_af_6,r_af_5,r_af_4,r_af_3,r_af_2,r_af_1,r_af_0]++[(36,[2]),(33,[2]),(32,[155]),(34,[163]),(31,[1,135]),(30,[2]),(29,[1,132]),(28,[1,7]),(20,[1,5]),(25,[1,5,6]),(27,[2]),(26,[1,5,6,104]),(24,[1,5,6,91]),(23,[1,5,6]),(22,[2]),(21,[1,5,88])])
def r_al_0:=rg [
oo 3 (.box 6 (.t 0)),bb7 6 0,bb7 7 0] [1,2,3]
def r_al_1:=rg [
bcl 12 1,bb8 13 .gtr 12 16,bcl 14 13,bcd 15 14 false 2,og 16 14 false (.bin .geq (.t 15) (ci 100)),bcp 17 14 16] [1,2,3,17]
def r_al_2:=rg [
bcl 18 2,bcr 6 18,bb7 7 4] [6,7]
def r_al_3:=rg [
bck 19 6 3,bca 20 n_af [(.t 19)],bcr 8 20] [1,2,3,8]
def r_al_4:=rg [
bcl 21 8,bb8 22 .neq 21 0] [1,2,3,8,22]
def r_al_5:=rg [
bcl 23 2,bcl 24 8,bcr 6 23,bcr 7 24] [6,7]
def r_al_6:=rg [
bcl 25 2,bb8 26 .add 25 1,bcr 2 26] [1,2,3]
def r_al_7:=rg [
bb7 9 0] [1,2,3,9]
def a04:=rg [
bcl 27 9,bcb 28 2 3,bcj 29 28,bci 30 false 29,bb9 31 .lss 27 30] [1,2,3,9,31]
def a03:=rg [
bcb 35 2 3,bcj 36 35,bcl 37 9,bcg 38 6 36 37,bck 39 6 38,bcl 40 1,bb8 41 .add 40 1,bcl 42 2,bca 43 n_al [(.t 39),(.t 41),(.t 42)],bcl 34 43,bcs 44 34 0,bcs 45 34 1,bcr 10 44,bcr 11 45] [1,3,9,10,11]
def ahs:=rg [
bcl 46 11,bb8 47 .neq 46 0] [1,3,9,10,11,47]
def ahr:=rg [
bcl 48 10,bcl 49 11,bcr 6 48,bcr 7 49] [6,7]
def ahq:=rg [
bcl 50 10,bcr 2 50] [1,2,3,9]
def ahp:=rg [
bcl 32 9,bb8 33 .add 32 1,bcr 9 33] [1,2,3,9]
def akr:ICode:=(.seq (.seq a04 (.cond (.t 31) .skip (.exit 0))) (.seq (.block 1 (.seq a03 (.seq (.seq ahs (.cond (.t 47) (.seq ahr .ret) .skip)) ahq))) ahp))
def ban:=bce akr.eq_1
def aho:=rg [
bcl 51 2,bcr 6 51,bb7 7 0] [6,7]
def c_al:ICode:=(.seq r_al_0 (.seq r_al_1 (.cond (.t 17) (.seq r_al_2 .ret) (.seq r_al_3 (.seq r_al_4 (.cond (.t 22) (.seq r_al_5 .ret) (.seq r_al_6 (.seq (.seq r_al_7 (.block 0 (.loop akr))) (.seq aho .ret)))))))))
def i_al:IFunc:=⟨3,[.t 6,.t 7],c_al⟩
def a_al:=zzy (zzz 13 [ahp,.ret,.ret,.ret,.ret,a04,r_al_7,r_al_6,r_al_5,r_al_4,r_al_3,r_al_2,r_al_1,r_al_0]++[(14,[6,7]),(9,[1,2,3,9]),(12,[6,7]),(11,[1,3,9,10,11,47]),(10,[1,3,9,10,11])])
def r_bp_0:=rg [
oo 1 (.box 6 (.t 0)),bb7 2 0] [1]
def r_bp_1:=rg [
bck 6 6 1,bca 7 n_al [(.t 6),(ci 1),(ci 0)],bcl 5 7,bcs 8 5 0,bcs 9 5 1,bcr 3 8,bcr 4 9] [4]
def r_bp_2:=rg [
bcl 10 4,bcr 2 10] [2]
def c_bp:ICode:=(.seq r_bp_0 (.seq r_bp_1 (.seq r_bp_2 .ret)))
def i_bp:IFunc:=⟨1,[.t 2],c_bp⟩
def a_bp:=zzy (zzz 2 [r_bp_2,r_bp_1,r_bp_0])
def r_am_0:=rg [
oo 2 (.box 6 (.t 0)),bb7 4 0] [1,2]
def r_am_1:=rg [
bcl 8 1,bb8 9 .gtr 8 20,bcl 10 9,og 11 10 false (.fieldA 2 (.t 2)),og 12 10 false (.load none (.t 11)),og 13 10 false (.len false (.t 12)),og 14 10 false (.bin .gtr (.t 13) (ci 300)),bcp 15 10 14,bcl 16 15,og 17 16 false (.fieldA 1 (.t 2)),og 18 16 false (.load none (.t 17)),og 19 16 false (.len false (.t 18)),og 20 16 false (.bin .gtr (.t 19) (ci 300)),bcp 21 16 20] [1,2,21]
def r_am_2:=rg [
bb7 4 1000] [4]
def r_am_3:=rg [
bb7 5 1] [1,2,5]
def r_am_4:=rg [
bb7 6 0] [1,2,5,6]
def a01:=rg [
bcl 22 6,bcb 23 1 2,bcj 24 23,bci 25 false 24,bb9 26 .lss 22 25] [1,2,5,6,26]
def a00:=rg [
bcb 29 1 2,bcj 30 29,bcl 31 6,bcg 32 1 30 31,bcj 33 32,bci 34 true 33,bb8 35 .gtr 34 200] [1,2,5,6,35]
def a0z:=rg [
bb7 4 1000] [4]
def a0y:=rg [
bcl 27 6,bb8 28 .add 27 1,bcr 6 28] [1,2,5,6]
def a8q:ICode:=(.seq (.seq a01 (.cond (.t 26) .skip (.exit 0))) (.seq (.block 1 (.seq a00 (.cond (.t 35) (.seq a0z .ret) .skip))) a0y))
def bao:=bce a8q.eq_1
def a02:=rg [
bb7 7 0] [1,2,5,7]
def ahn:=rg [
bcl 36 7,bcb 37 2 2,bcj 38 37,bci 39 false 38,bb9 40 .lss 36 39] [1,2,5,7,40]
def ahm:=rg [
bcl 43 5,bcb 44 2 2,bcj 45 44,bcl 46 7,bcg 47 6 45 46,bck 48 6 47,bcl 49 1,bb8 50 .add 49 1,bca 51 n_am [(.t 48),(.t 50)],bb9 52 .add 43 51,bcr 5 52] [1,2,5,7]
def ahl:=rg [
bcl 53 5,bb8 54 .gtr 53 1000] [1,2,5,7,54]
def ahk:=rg [
bb7 4 1000] [4]
def ahj:=rg [
bcl 41 7,bb8 42 .add 41 1,bcr 7 42] [1,2,5,7]
def akq:ICode:=(.seq (.seq ahn (.cond (.t 40) .skip (.exit 2))) (.seq (.block 3 (.seq ahm (.seq ahl (.cond (.t 54) (.seq ahk .ret) .skip)))) ahj))
def bap:=bce akq.eq_1
def ahi:=rg [
bcl 55 5,bcr 4 55] [4]
def c_am:ICode:=(.seq r_am_0 (.seq r_am_1 (.cond (.t 21) (.seq r_am_2 .ret) (.seq r_am_3 (.seq (.seq r_am_4 (.block 0 (.loop a8q))) (.seq (.seq a02 (.block 2 (.loop akq))) (.seq ahi .ret)))))))
def i_am:IFunc:=⟨2,[.t 4],c_am⟩
def a_am:=zzy (zzz 14 [ahk,ahl,ahm,.ret,.ret,.ret,.ret,.ret,.ret,a01,r_am_4,r_am_3,r_am_2,r_am_1,r_am_0]++[(15,[4]),(11,[1,2,5,7]),(10,[1,2,5,7,40]),(9,[1,2,5,7]),(6,[1,2,5,6]),(8,[4]),(7,[1,2,5,6,35])])
def r_br_0:=rg [
oo 1 (.box 6 (.t 0)),bb6 2 false] [1]
def r_br_1:=rg [
bck 4 6 1,bca 5 n_am [(.t 4),(ci 1)],bcr 3 5] [3]
def r_br_2:=rg [
bcl 6 3,bb8 7 .leq 6 150,bcr 2 7] [2]
def c_br:ICode:=(.seq r_br_0 (.seq r_br_1 (.seq r_br_2 .ret)))
def i_br:IFunc:=⟨1,[.t 2],c_br⟩
def a_br:=zzy (zzz 2 [r_br_2,r_br_1,r_br_0])
def r_aq_0:=rg [
oo 2 (.box 6 (.t 0)),oo 3 (.box 6 (.t 1)),bb6 4 false] [2,3]
def r_aq_1:=rg [
bcb 7 0 2,bcj 8 7,bcb 9 0 3,bcj 10 9,bb9 11 .neq 8 10,bcl 12 11,og 13 12 false (.fieldA 3 (.t 2)),og 14 12 false (.load none (.t 13)),og 15 12 false (.fieldA 3 (.t 3)),og 16 12 false (.load none (.t 15)),og 17 12 false (.bin .neq (.t 14) (.t 16)),bcp 18 12 17,bcl 19 18,og 20 19 false (.fieldA 4 (.t 2)),og 21 19 false (.load none (.t 20)),og 22 19 false (.fieldA 4 (.t 3)),og 23 19 false (.load none (.t 22)),og 24 19 false (.bin .neq (.t 21) (.t 23)),bcp 25 19 24,bcl 26 25,og 27 26 false (.fieldA 5 (.t 2)),og 28 26 false (.load none (.t 27)),og 29 26 false (.fieldA 5 (.t 3)),og 30 26 false (.load none (.t 29)),og 31 26 false (.bin .neq (.t 28) (.t 30)),bcp 32 26 31,bcl 33 32,og 34 33 false (.fieldA 1 (.t 2)),og 35 33 false (.load none (.t 34)),og 36 33 false (.len false (.t 35)),og 37 33 false (.fieldA 1 (.t 3)),og 38 33 false (.load none (.t 37)),og 39 33 false (.len false (.t 38)),og 40 33 false (.bin .neq (.t 36) (.t 39)),bcp 41 33 40,bcl 42 41,og 43 42 false (.fieldA 2 (.t 2)),og 44 42 false (.load none (.t 43)),og 45 42 false (.len false (.t 44)),og 46 42 false (.fieldA 2 (.t 3)),og 47 42 false (.load none (.t 46)),og 48 42 false (.len false (.t 47)),og 49 42 false (.bin .neq (.t 45) (.t 48)),bcp 50 42 49] [2,3,50]
@[go_sem] def r_aq_2_o:Ops:=[
bb6 4 false]
def r_aq_2:=rg r_aq_2_o [4]
def r_aq_3:=rg [
bb7 5 0] [2,3,5]
def az6:=rg [
bcl 51 5,bcb 52 1 2,bcj 53 52,bci 54 false 53,bb9 55 .lss 51 54] [2,3,5,55]
@[go_sem] def apj:Ops:=[
bcb 58 1 2,bcj 59 58,bcl 60 5,bcg 61 1 59 60,bcj 62 61,bcb 63 1 3,bcj 64 63,bcl 65 5,bcg 66 1 64 65,bcj 67 66,bb9 68 .neq 62 67]
def apk:List (Nat×Nat):=[(0,2),(1,2),(0,5),(1,5),(2,5),(3,5),(4,5),(0,6),(1,6),(2,6),(3,6),(4,6),(0,7),(1,7),(2,7),(3,7),(4,7),(5,7),(6,7),(0,8),(1,8),(2,8),(3,8),(4,8),(0,9),(1,9),(2,9),(3,9),(4,9)]
def az5:ICode:= .region apj apk [2,3,5,68]
@[go_sem] theorem r_aq_5_u:Gu X K s az5 apk apj [2,3,5,68]:=go_regionU' _ _ _ _
@[go_sem] def r_aq_6_o:Ops:=[
bb6 4 false]
def r_aq_6:=rg r_aq_6_o [4]
def az4:=rg [
bcl 56 5,bb8 57 .add 56 1,bcr 5 57] [2,3,5]
def a8p:ICode:=(.seq (.seq az6 (.cond (.t 55) .skip (.exit 0))) (.seq (.block 1 (.seq az5 (.cond (.t 68) (.seq r_aq_6 .ret) .skip))) az4))
def baq:=bce a8p.eq_1
def r_aq_9:=rg [
bb7 6 0] [2,3,6]
def ag1:=rg [
bcl 69 6,bcb 70 2 2,bcj 71 70,bci 72 false 71,bb9 73 .lss 69 72] [2,3,6,73]
@[go_sem] def ws:Ops:=[
bcb 76 2 2,bcj 77 76,bcl 78 6,bcg 79 6 77 78,bck 80 6 79,bcb 81 2 3,bcj 82 81,bcl 83 6,bcg 84 6 82 83,bck 85 6 84,bca 86 n_aq [(.t 80),(.t 85)],bcn 87 86]
def wu:List (Nat×Nat):=[(0,2),(1,2),(0,5),(1,5),(2,5),(3,5),(4,5),(0,6),(1,6),(2,6),(3,6),(4,6),(0,7),(1,7),(2,7),(3,7),(4,7),(5,7),(6,7),(0,8),(1,8),(2,8),(3,8),(4,8),(0,9),(1,9),(2,9),(3,9),(4,9)]
def ag0:ICode:= .region ws wu [2,3,6,87]
@[go_sem] theorem r_aq_11_u:Gu X K s ag0 wu ws [2,3,6,87]:=go_regionU' _ _ _ _
@[go_sem] def az8:Ops:=[
bb6 4 false]
def az9:=rg az8 [4]
def agz:=rg [
bcl 74 6,bb8 75 .add 74 1,bcr 6 75] [2,3,6]
def akm:ICode:=(.seq (.seq ag1 (.cond (.t 73) .skip (.exit 2))) (.seq (.block 3 (.seq ag0 (.cond (.t 87) (.seq az9 .ret) .skip))) agz))
def bar:=bce akm.eq_1
def az7:=rg [
bb6 4 true] [4]
def c_aq:ICode:=(.seq r_aq_0 (.seq r_aq_1 (.cond (.t 50) (.seq r_aq_2 .ret) (.seq (.seq r_aq_3 (.block 0 (.loop a8p))) (.seq (.seq r_aq_9 (.block 2 (.loop akm))) (.seq az7 .ret))))))
def i_aq:IFunc:=⟨2,[.t 4],c_aq⟩
def a_aq:=zzy (zzz 4 [az6,r_aq_3,.ret,r_aq_1,r_aq_0]++[(13,[4]),(10,[2,3,6]),(12,[4]),(11,[2,3,6,87]),(9,[2,3,6,73]),(8,[2,3,6]),(5,[2,3,5]),(7,[4]),(6,[2,3,5,68]),(2,[4])])
@[go_sem] def r_cr_0_o:Ops:=[
bb7 2 0]
def r_cr_0:=rg r_cr_0_o [0]
@[go_sem] def r_cr_1_o:Ops:=[
bcl 3 0,oo 4 (.bin .shr (.t 3) (.c (.int .u64 1))),oo 5 (.cvInt .i64 (.t 4)),bcl 6 0,oo 7 (.bin .and (.t 6) (.c (.int .u64 1))),oo 8 (.cvInt .i64 (.t 7)),oo 9 (.un .neg (.t 8)),bb9 10 .xor 5 9,bcr 2 10]
def r_cr_1:=rg r_cr_1_o [2]
def c_cr:ICode:=(.seq r_cr_0 (.seq r_cr_1 .ret))
def i_cr:IFunc:=⟨1,[.t 2],c_cr⟩
def a_cr:=zzy ([(1,[2]),(0,[0])])
def r_av_0:=rg [
oo 2 (.box 8 (.t 0)),oo 4 (.alloc [(.int .i64 0),(.bool false),(.bool false),(.bool false),(.int .i64 0),(.int .i64 0),.nilS,.nilS,(.bool false),(.int .i64 0),(.int .i64 0),.nilS,.nilS,(.bool false),(.int .i64 0)]),bb7 5 0] [1,2,4]
def r_av_1:=rg [
bcl 19 1,bca 20 n_bh [(.t 19)],bcl 18 20,bcs 21 18 0,bcs 22 18 1,bcr 6 21,bcr 7 22] [2,4,6,7]
def r_av_2:=rg [
bcl 23 7,bb8 24 .neq 23 0] [2,4,6,7,24]
@[go_sem] def r_av_3_o:Ops:=[
oo 25 (.build [(.int .i64 0),(.bool false),(.bool false),(.bool false),(.int .i64 0),(.int .i64 0),.nilS,.nilS,(.bool false),(.int .i64 0),(.int .i64 0),.nilS,.nilS,(.bool false),(.int .i64 0)] []),bcl 26 7,bcq 15 4 25,bcr 5 26]
def r_av_3:=rg r_av_3_o [4,5]
def r_av_4:=rg [
bcl 28 6,bca 29 n_cf [(.t 28),(ci 1)],bcl 27 29,bcs 30 27 0,bcs 31 27 1,bcr 8 30,bcr 9 31] [2,4,6,8]
def r_av_5:=rg [
bcl 33 6,bca 34 n_cf [(.t 33),(ci 10)],bcl 32 34,bcs 35 32 0,bcs 36 32 1,bcr 10 35,bcr 11 36] [2,4,6,8,10]
def r_av_6:=rg [
bcl 37 8,oo 38 (.bin .gtr (.t 37) (.c (.int .u64 262144)))] [2,4,6,8,10,38]
@[go_sem] def r_av_7_o:Ops:=[
oo 39 (.build [(.int .i64 0),(.bool false),(.bool false),(.bool false),(.int .i64 0),(.int .i64 0),.nilS,.nilS,(.bool false),(.int .i64 0),(.int .i64 0),.nilS,.nilS,(.bool false),(.int .i64 0)] []),bcq 15 4 39,bb7 5 2]
def r_av_7:=rg r_av_7_o [4,5]
def r_av_8:=rg [
bcl 40 8,oo 41 (.cvInt .i64 (.t 40)),bcl 42 10,oo 43 (.bin .neq (.t 42) (.c (.int .u64 0))),oo 44 (.build [(.int .i64 0),(.bool false),(.bool false),(.bool false),(.int .i64 0),(.int .i64 0),.nilS,.nilS,(.bool false),(.int .i64 0),(.int .i64 0),.nilS,.nilS,(.bool false),(.int .i64 0)] [(0,1,(.t 41)),(1,1,(.t 43))]),oo 12 (.alloc [(.int .i64 0),(.bool false),(.bool false),(.bool false),(.int .i64 0),(.int .i64 0),.nilS,.nilS,(.bool false),(.int .i64 0),(.int .i64 0),.nilS,.nilS,(.bool false),(.int .i64 0)]),bcq 15 12 44] [2,4,6,12]
def r_av_9:=rg [
bcb 45 0 2,bcj 46 45,bca 47 n_a8 [(.t 46)],bcr 13 47] [2,4,6,12,13]
def az3:=rg [
bcl 49 6,bcl 50 13,bca 51 n_cd [(.t 49),(.t 50)],bcl 48 51,bcs 52 48 0,bcs 53 48 1,bcr 14 52,bcr 15 53] [2,4,12,13,14,15]
def az2:=rg [
bcl 54 13,bb8 55 .eql 54 0,bcl 56 55,bcd 57 56 false 15,og 58 56 false (.un .not (.t 57)),bcp 59 56 58] [2,4,12,14,59]
def az1:=rg [
bck 60 15 12,bcq 15 4 60,bb7 5 0] [4,5]
@[go_sem] def az0:Ops:=[
bck 61 8 2,oo 62 (.build [(.int .i64 0),.nilS,.nilS,(.int .i64 0),(.int .i64 0),(.int .i64 0),(.int .i64 0),(.int .i64 0),.nilS,(.bool false)] [(0,8,(.t 61)),(9,1,(.c (.bool true)))]),oo 63 (.box 10 (.t 62)),bcr 16 63]
def r_av_13:=rg az0 [2,4,12,14,16]
@[go_sem] def azz:Ops:=[
bcl 65 16,bcl 66 14,bca 67 n_bh [(.t 66)],bcl 64 67,bcs 68 64 0,bcs 69 64 1,bcm 70 65,bcb 71 8 70,bcq 1 71 68,bcr 7 69]
def r_av_14:=rg azz [2,4,7,12,16]
@[go_sem] def azy:Ops:=[
bcl 72 7,bb8 73 .neq 72 0]
def r_av_15:=rg azy [2,4,7,12,16,73]
@[go_sem] def azx:Ops:=[
oo 74 (.build [(.int .i64 0),(.bool false),(.bool false),(.bool false),(.int .i64 0),(.int .i64 0),.nilS,.nilS,(.bool false),(.int .i64 0),(.int .i64 0),.nilS,.nilS,(.bool false),(.int .i64 0)] []),bcl 75 7,bcq 15 4 74,bcr 5 75]
def r_av_16:=rg azx [4,5]
@[go_sem] def azw:Ops:=[
bcl 76 16,bca 77 n_di [(.t 76),(.t 12)],bcr 17 77]
def r_av_17:=rg azw [2,4,12,16,17]
@[go_sem] def azv:Ops:=[
bcl 78 17,bb8 79 .neq 78 0]
def r_av_18:=rg azv [2,4,12,16,17,79]
@[go_sem] def azu:Ops:=[
oo 80 (.build [(.int .i64 0),(.bool false),(.bool false),(.bool false),(.int .i64 0),(.int .i64 0),.nilS,.nilS,(.bool false),(.int .i64 0),(.int .i64 0),.nilS,.nilS,(.bool false),(.int .i64 0)] []),bcl 81 17,bcq 15 4 80,bcr 5 81]
def r_av_19:=rg azu [4,5]
@[go_sem] def azs:Ops:=[
bcl 82 16,bcm 83 82,bcb 84 9 83,bcj 85 84,bcn 86 85,bcl 87 86,og 88 87 false (.fieldA 2 (.t 12)),og 89 87 false (.load none (.t 88)),bcd 90 87 false 89,og 91 90 true (.load (some 8) (.t 2)),og 92 90 true (.call false n_dk [(.t 91)]),og 93 90 true (.fieldA 3 (.t 12)),og 94 90 true (.load (some 5) (.t 93)),og 95 90 true (.call false n_dj [(.t 92),(.t 94)]),og 96 90 true (.bin .neq (.t 95) (ci 0)),bcd 97 90 true 96,og 98 97 false (.load (some 8) (.t 2)),og 99 97 false (.call false n_dk [(.t 98)]),og 100 97 false (.fieldA 8 (.t 12)),og 101 97 false (.load (some 5) (.t 100)),og 102 97 false (.call false n_dj [(.t 99),(.t 101)]),og 103 97 false (.bin .neq (.t 102) (ci 0)),og 104 90 true (.pick (.t 97) (.c (.bool true)) (.t 103)),og 105 87 false (.pick (.t 90) (.t 104) (.c (.bool false))),bcp 106 87 105]
def azt:List (Nat×Nat):=[(9,11),(10,11),(9,12),(10,12),(16,18),(17,18),(16,19),(17,19)]
def r_av_20:ICode:= .region azs azt [4,12,106]
@[go_sem] def azr:Ops:=[
oo 107 (.build [(.int .i64 0),(.bool false),(.bool false),(.bool false),(.int .i64 0),(.int .i64 0),.nilS,.nilS,(.bool false),(.int .i64 0),(.int .i64 0),.nilS,.nilS,(.bool false),(.int .i64 0)] []),bcq 15 4 107,bb7 5 2]
def r_av_21:=rg azr [4,5]
@[go_sem] def azq:Ops:=[
bcb 108 13 12,bcj 109 108,bcn 110 109]
def r_av_22:=rg azq [4,12,110]
@[go_sem] def azp:Ops:=[
bcb 111 14 12,ow (.store 1 (.t 111) (ci 0))]
def r_av_23:=rg azp [4,12]
@[go_sem] def azo:Ops:=[
bck 112 15 12,bcq 15 4 112,bb7 5 0]
def r_av_24:=rg azo [4,5]
def c_av:ICode:=(.seq r_av_0 (.seq r_av_1 (.seq r_av_2 (.cond (.t 24) (.seq r_av_3 .ret) (.seq r_av_4 (.seq r_av_5 (.seq r_av_6 (.cond (.t 38) (.seq r_av_7 .ret) (.seq r_av_8 (.seq r_av_9 (.seq az3 (.seq az2 (.cond (.t 59) (.seq az1 .ret) (.seq r_av_13 (.seq (.seq r_av_14 (.seq r_av_15 (.cond (.t 73) (.seq r_av_16 .ret) .skip))) (.seq (.seq r_av_17 (.seq r_av_18 (.cond (.t 79) (.seq r_av_19 .ret) .skip))) (.seq r_av_20 (.cond (.t 106) (.seq r_av_21 .ret) (.seq (.seq r_av_22 (.cond (.t 110) r_av_23 .skip)) (.seq r_av_24 .ret))))))))))))))))))))
def i_av:IFunc:=⟨2,[.cell 4 (some 15),.t 5],c_av⟩
def a_av:=zzy (zzz 12 [az1,az2,az3,r_av_9,r_av_8,.ret,r_av_6,r_av_5,r_av_4,.ret,r_av_2,r_av_1,r_av_0]++[(24,[4,5]),(23,[4,12]),(22,[4,12,110]),(21,[4,5]),(20,[4,12,106]),(19,[4,5]),(18,[2,4,12,16,17,79]),(17,[2,4,12,16,17]),(16,[4,5]),(15,[2,4,7,12,16,73]),(14,[2,4,7,12,16]),(13,[2,4,12,14,16]),(7,[4,5]),(3,[4,5])])
def r_aw_0:=rg [
oo 2 (.box 9 (.t 0)),oo 4 (.asg (.c .nilS)),bb7 5 0] [1,2]
def r_aw_1:=rg [
bcb 11 8 2,bcj 12 11,bci 13 false 12,bb8 14 .gtr 13 0,bcl 15 14,og 16 15 true (.fieldA 8 (.t 2)),og 17 15 true (.load none (.t 16)),og 18 15 true (.len false (.t 17)),bcd 19 15 true 1,og 20 15 true (.len false (.t 19)),og 21 15 true (.bin .neq (.t 18) (.t 20)),bco 22 15 21] [1,2,22]
@[go_sem] def r_aw_2_o:Ops:=[
oo 4 (.asg (.c .nilS)),bb7 5 2]
def r_aw_2:=rg r_aw_2_o [4,5]
def r_aw_3:=rg [
oo 6 (.asg (.c .nilS))] [1,2,6]
def r_aw_4:=rg [
bcb 23 8 2,bcj 24 23,bci 25 false 24,oo 26 (.mv (ci 0))] [1,6,24,25,26]
def azn:=rg [
bb9 27 .lss 26 25] [1,6,24,25,26,27]
def azm:=rg [
bcl 28 26,bcg 29 1 24 26,bcj 30 29,bcr 7 28,bcr 8 30] [1,6,7,8,24,25,26]
def azl:=rg [
bcl 32 1,bcl 33 7,bcg 34 8 32 33,bck 35 8 34,bcl 36 8,bca 37 n_av [(.t 35),(.t 36)],bcl 31 37,bcs 38 31 0,bcs 39 31 1,oo 9 (.alloc [(.int .i64 0),(.bool false),(.bool false),(.bool false),(.int .i64 0),(.int .i64 0),.nilS,.nilS,(.bool false),(.int .i64 0),(.int .i64 0),.nilS,.nilS,(.bool false),(.int .i64 0)]),bcq 15 9 38,bcr 10 39] [1,6,9,10,24,25,26]
def azk:=rg [
bcl 40 10,bb8 41 .neq 40 0] [1,6,9,10,24,25,26,41]
@[go_sem] def r_aw_9_o:Ops:=[
bcl 42 10,oo 4 (.asg (.c .nilS)),bcr 5 42]
def r_aw_9:=rg r_aw_9_o [4,5]
def agy:=rg [
bcl 43 6,bck 44 15 9,oo 45 (.lit false 15 1 (.agg [(.int .i64 0),(.bool false),(.bool false),(.bool false),(.int .i64 0),(.int .i64 0),(.sl []),(.sl []),(.bool false),(.int .i64 0),(.int .i64 0),(.sl []),(.sl []),(.bool false),(.int .i64 0)]) [(0,(.t 44))]),oo 46 (.append 15 176 (.t 43) (.t 45)),bcr 6 46] [1,6,24,25,26]
def agx:=rg [
bb8 47 .add 26 1,bcl 26 47] [1,6,24,25,26]
def akl:ICode:=(.seq azn (.seq (.cond (.t 27) .skip (.exit 0)) (.seq (.block 1 (.seq azm (.seq (.seq (.free 9) azl) (.seq (.seq azk (.cond (.t 41) (.seq r_aw_9 .ret) .skip)) agy)))) agx)))
def bas:=bce akl.eq_1
def agw:=rg [
bcl 48 6,bca 49 n_cw [(.t 48)],bcr 4 49,bb7 5 0] [4,5]
def c_aw:ICode:=(.seq r_aw_0 (.seq r_aw_1 (.cond (.t 22) (.seq r_aw_2 .ret) (.seq r_aw_3 (.seq (.seq r_aw_4 (.block 0 (.loop akl))) (.seq agw .ret))))))
def i_aw:IFunc:=⟨2,[.t 4,.t 5],c_aw⟩
def a_aw:Advice:=⟨[46],zzz 11 [agx,agy,.ret,azk,azl,azm,azn,r_aw_4,r_aw_3,.ret,r_aw_1,r_aw_0]++[(12,[4,5]),(9,[4,5]),(2,[4,5])],[],[(7,[9])],[],[]⟩
def r_cd_0:=rg [
oo 4 (.asg (.c .nilS)),bb6 5 false] [0,1]
def r_cd_1:=rg [
bcl 9 0,bcl 10 1,bca 11 n_bx [(.t 9),(.t 10),(ci 2)],bcl 8 11,bcs 12 8 0,bcs 13 8 1,oo 6 (.alloc [(.int .i64 0),(.int .i64 0),(.int .u64 0),.nilS,(.int .i64 0)]),bcq 5 6 12,bcr 7 13] [6,7]
def r_cd_2:=rg [
bcb 14 3 6,bcj 15 14,bca 16 n_bg [(.t 15)],bca 17 n_cq [(.t 16)],bcl 18 7,bcr 4 17,bcr 5 18] [4,5]
def c_cd:ICode:=(.seq r_cd_0 (.seq r_cd_1 (.seq r_cd_2 .ret)))
def i_cd:IFunc:=⟨2,[.t 4,.t 5],c_cd⟩
def a_cd:=zzy (zzz 2 [r_cd_2,r_cd_1,r_cd_0])
def r_ax_0:=rg [
oo 1 (.box 9 (.t 0)),oo 2 (.asg (.c .nilS)),bb6 3 false] [1]
def r_ax_1:=rg [
bcb 11 0 1,oo 12 (.idxB 8 1 (.t 11) (ci 5)),bcj 13 12,bci 14 false 13,bb8 15 .gtr 14 32] [1,15]
@[go_sem] def r_ax_2_o:Ops:=[
oo 2 (.asg (.c .nilS)),bb6 3 false]
def r_ax_2:=rg r_ax_2_o [2,3]
def r_ax_3:=rg [
oo 4 (.asg (.c .nilS))] [1,4]
def r_ax_4:=rg [
bcb 16 0 1,oo 17 (.idxB 8 1 (.t 16) (ci 5)),bcj 18 17,bci 19 false 18,oo 20 (.mv (ci 0))] [4,18,19,20]
def azj:=rg [
bb9 21 .lss 20 19] [4,18,19,20,21]
def azi:=rg [
bcg 22 1 18 20,bcj 23 22,bcr 6 23] [4,6,18,19,20]
def azh:=rg [
bcl 25 6,bca 26 n_cd [(.t 25),(ci 1)],bcl 24 26,bcs 27 24 0,bcs 28 24 1,bcr 7 27,bcr 8 28] [4,6,7,18,19,20]
def azg:=rg [
bcl 30 6,bca 31 n_cd [(.t 30),(ci 2)],bcl 29 31,bcs 32 29 0,bcs 33 29 1,bcr 9 32,bcr 10 33] [4,7,9,18,19,20]
def azf:=rg [
bcl 34 4,bcl 35 7,oo 36 (.b2s (.t 35)),bcl 37 9,oo 38 (.build [(.str []),.nilS] [(0,1,(.t 36)),(1,1,(.t 37))]),oo 39 (.lit false 2 1 (.agg [(.str []),(.sl [])]) [(0,(.t 38))]),oo 40 (.append 2 40 (.t 34) (.t 39)),bcr 4 40] [4,18,19,20]
def agv:=rg [
bb8 41 .add 20 1,bcl 20 41] [4,18,19,20]
def qg:ICode:=(.seq azj (.seq (.cond (.t 21) .skip (.exit 0)) (.seq (.block 1 (.seq azi (.seq azh (.seq azg azf)))) agv)))
def bat:=bce qg.eq_1
def agu:=rg [
bcl 42 4,bca 43 n_cz [(.t 42)],bcr 2 43,bb6 3 true] [2,3]
def c_ax:ICode:=(.seq r_ax_0 (.seq r_ax_1 (.cond (.t 15) (.seq r_ax_2 .ret) (.seq r_ax_3 (.seq (.seq r_ax_4 (.block 0 (.loop qg))) (.seq agu .ret))))))
def i_ax:IFunc:=⟨1,[.t 2,.t 3],c_ax⟩
def a_ax:Advice:=⟨[40],zzz 10 [agv,azf,azg,azh,azi,azj,r_ax_4,r_ax_3,.ret,r_ax_1,r_ax_0]++[(11,[2,3]),(2,[2,3])],[],[],[],[]⟩
def r_a5_0:=rg [
oo 6 (.alloc [(.int .i64 0),.nilS,.nilS,(.int .i64 0),(.int .i64 0),(.int .i64 0)]),bb6 7 false] [0,1,2,6]
def r_a5_1:=rg [
bcl 14 1,bcm 15 14,bcj 16 15,bcl 17 0,bci 18 false 17,bb9 19 .geq 16 18] [0,1,2,6,19]
@[go_sem] def r_a5_2_o:Ops:=[
oo 20 (.build [(.int .i64 0),.nilS,.nilS,(.int .i64 0),(.int .i64 0),(.int .i64 0)] []),bcq 6 6 20,bb6 7 false]
def r_a5_2:=rg r_a5_2_o [6,7]
def r_a5_3:=rg [
bcl 21 0,bcl 22 1,bcm 23 22,bcj 24 23,bcg 25 8 21 24,bck 26 8 25,oo 8 (.alloc [(.int .i64 0),.nilS,.nilS,(.int .i64 0),(.int .i64 0),(.int .i64 0),(.int .i64 0),(.int .i64 0)]),bcq 8 8 26] [0,1,2,6,8]
def r_a5_4:=rg [
bcl 27 1,bcm 28 27,bcj 29 28,bb8 30 .add 29 1,bcm 31 27,bcq 1 31 30] [0,1,2,6,8]
@[go_sem] def at1:Ops:=[
bcb 32 0 8,bcj 33 32,bcb 34 2 8,bcj 35 34,bca 36 n_bb [(.t 35)],bca 37 n_cy [(.t 36)],bcb 38 3 8,bcj 39 38,bcb 40 4 8,bcj 41 40,bcb 42 5 8,bcj 43 42,oo 44 (.build [(.int .i64 0),.nilS,.nilS,(.int .i64 0),(.int .i64 0),(.int .i64 0)] [(0,1,(.t 33)),(1,1,(.t 37)),(3,1,(.t 39)),(4,1,(.t 41)),(5,1,(.t 43))]),oo 9 (.alloc [(.int .i64 0),.nilS,.nilS,(.int .i64 0),(.int .i64 0),(.int .i64 0)]),bcq 6 9 44]
def nk:List (Nat×Nat):=[(0,2),(1,2),(0,3),(1,3),(0,4),(1,4),(0,5),(1,5),(0,6),(1,6),(2,6),(3,6),(4,6),(5,6),(0,7),(1,7),(2,7),(3,7),(4,7),(5,7),(0,8),(1,8),(2,8),(3,8),(4,8),(5,8),(6,8),(7,8),(0,9),(1,9),(2,9),(3,9),(4,9),(5,9),(6,9),(7,9),(0,10),(1,10),(2,10),(3,10),(4,10),(5,10),(6,10),(7,10),(8,10),(9,10),(0,11),(1,11),(2,11),(3,11),(4,11),(5,11),(6,11),(7,11),(8,11),(9,11),(0,13),(1,13),(2,13),(3,13),(4,13),(5,13),(6,13),(7,13),(8,13),(9,13),(10,13),(11,13),(12,13)]
def r_a5_5:ICode:= .region at1 nk [0,1,2,6,8,9]
@[go_sem] theorem r_a5_5_u:Gu X K s r_a5_5 nk at1 [0,1,2,6,8,9]:=go_regionU' _ _ _ _
def r_a5_6:=rg [
bcb 45 1 8,bcj 46 45,bci 47 false 46,oo 48 (.mv (ci 0))] [0,1,2,6,9,46,47,48]
def a6c:=rg [
bb9 49 .lss 48 47] [0,1,2,6,9,46,47,48,49]
def a6b:=rg [
bcg 50 1 46 48,bcj 51 50,bcr 11 51] [0,1,2,6,9,11,46,47,48]
def a6a:=rg [
bcl 52 11,bcl 53 1,bcm 54 53,bcj 55 54,bb9 56 .neq 52 55] [0,1,2,6,9,46,47,48,56]
@[go_sem] def a6f:Ops:=[
oo 57 (.build [(.int .i64 0),.nilS,.nilS,(.int .i64 0),(.int .i64 0),(.int .i64 0)] []),bcq 6 6 57,bb6 7 false]
def a6g:=rg a6f [6,7]
def ajn:=rg [
bcl 59 0,bcl 60 1,bcl 61 2,bb8 62 .add 61 1,bca 63 n_a5 [(.t 59),(.t 60),(.t 62)],bcl 58 63,bcs 64 58 0,bcs 65 58 1,oo 12 (.alloc [(.int .i64 0),.nilS,.nilS,(.int .i64 0),(.int .i64 0),(.int .i64 0)]),bcq 6 12 64,bcr 13 65] [0,1,2,6,9,12,13,46,47,48]
def ajm:=rg [
bcl 66 13,bcn 67 66] [0,1,2,6,9,12,46,47,48,67]
@[go_sem] def a6d:Ops:=[
oo 68 (.build [(.int .i64 0),.nilS,.nilS,(.int .i64 0),(.int .i64 0),(.int .i64 0)] []),bcq 6 6 68,bb6 7 false]
def a6e:=rg a6d [6,7]
def ajl:=rg [
bcb 69 2 9,bcj 70 69,bck 71 6 12,oo 72 (.lit false 6 1 (.agg [(.int .i64 0),(.sl []),(.sl []),(.int .i64 0),(.int .i64 0),(.int .i64 0)]) [(0,(.t 71))]),oo 73 (.append 6 80 (.t 70) (.t 72)),bcb 74 2 9,bcq 1 74 73] [0,1,2,6,9,46,47,48]
def ajk:=rg [
bb8 75 .add 48 1,bcl 48 75] [0,1,2,6,9,46,47,48]
def ak1:ICode:=(.seq a6c (.seq (.cond (.t 49) .skip (.exit 0)) (.seq (.block 1 (.seq a6b (.seq (.seq a6a (.cond (.t 56) (.seq a6g .ret) .skip)) (.seq (.seq (.free 12) ajn) (.seq (.seq ajm (.cond (.t 67) (.seq a6e .ret) .skip)) ajl))))) ajk)))
def bau:=bce ak1.eq_1
def ajj:=rg [
bcb 76 2 9,bcj 77 76,oo 78 (.call true n_c7 [(.t 77)]),bcb 79 2 9,bcq 1 79 78] [6,9]
def aji:=rg [
bck 80 6 9,bcq 6 6 80,bb6 7 true] [6,7]
def c_a5:ICode:=(.seq r_a5_0 (.seq r_a5_1 (.cond (.t 19) (.seq r_a5_2 .ret) (.seq r_a5_3 (.seq r_a5_4 (.seq r_a5_5 (.seq (.seq r_a5_6 (.block 0 (.loop ak1))) (.seq ajj (.seq aji .ret)))))))))
def i_a5:IFunc:=⟨3,[.cell 6 (some 6),.t 7],c_a5⟩
def a_a5:Advice:=⟨[73,78],zzz 15 [ajk,ajl,.ret,ajm,ajn,.ret,a6a,a6b,a6c,r_a5_6,.ret,r_a5_4,r_a5_3,.ret,r_a5_1,r_a5_0]++[(17,[6,7]),(16,[6,9]),(13,[6,7]),(10,[6,7]),(5,[0,1,2,6,8,9]),(2,[6,7])],[],[(11,[12])],[],[]⟩
def r_bn_0:=rg [
oo 2 (.alloc [(.int .i64 0),.nilS,.nilS,(.int .i64 0),(.int .i64 0),(.int .i64 0)]),bb7 3 0] [0,2]
def r_bn_1:=rg [
oo 4 (.alloc [(.int .i64 0)]),ow (.store 1 (.t 4) (ci 0))] [0,2,4]
def r_bn_2:=rg [
bcl 9 0,bca 10 n_a5 [(.t 9),(.t 4),(ci 1)],bcl 8 10,bcs 11 8 0,bcs 12 8 1,oo 5 (.alloc [(.int .i64 0),.nilS,.nilS,(.int .i64 0),(.int .i64 0),(.int .i64 0)]),bcq 6 5 11,bcr 6 12] [0,2,4,5,6]
def r_bn_3:=rg [
bcl 13 6,bcn 14 13,bcl 15 14,og 16 15 false (.load none (.t 4)),bcd 17 15 false 0,og 18 15 false (.len false (.t 17)),og 19 15 false (.bin .lss (.t 16) (.t 18)),bcp 20 15 19] [2,5,20]
@[go_sem] def r_bn_4_o:Ops:=[
oo 21 (.build [(.int .i64 0),.nilS,.nilS,(.int .i64 0),(.int .i64 0),(.int .i64 0)] []),bcq 6 2 21,bb7 3 1]
def r_bn_4:=rg r_bn_4_o [2,3]
def r_bn_5:=rg [
bck 22 6 5,bca 23 n_b0 [(.t 22)],bcr 7 23] [2,5,7]
def r_bn_6:=rg [
bcl 24 7,bb8 25 .neq 24 0] [2,5,7,25]
@[go_sem] def r_bn_7_o:Ops:=[
oo 26 (.build [(.int .i64 0),.nilS,.nilS,(.int .i64 0),(.int .i64 0),(.int .i64 0)] []),bcl 27 7,bcq 6 2 26,bcr 3 27]
def r_bn_7:=rg r_bn_7_o [2,3]
def r_bn_8:=rg [
bck 28 6 5,bcq 6 2 28,bb7 3 0] [2,3]
def c_bn:ICode:=(.seq r_bn_0 (.seq r_bn_1 (.seq r_bn_2 (.seq r_bn_3 (.cond (.t 20) (.seq r_bn_4 .ret) (.seq (.seq r_bn_5 (.seq r_bn_6 (.cond (.t 25) (.seq r_bn_7 .ret) .skip))) (.seq r_bn_8 .ret)))))))
def i_bn:IFunc:=⟨1,[.cell 2 (some 6),.t 3],c_bn⟩
def a_bn:=zzy (zzz 8 [r_bn_8,.ret,r_bn_6,r_bn_5,.ret,r_bn_3,r_bn_2,r_bn_1,r_bn_0]++[(7,[2,3]),(4,[2,3])])
def r_bv_0:=rg [
oo 4 (.asg (.c .nilS))] [0,1]
def r_bv_1:=rg [
oo 5 (.asg (.c .nilS))] [0,1,5]
def r_bv_2:=rg [
bcl 8 0,bci 9 false 8,oo 10 (.mv (ci 0))] [1,5,8,9,10]
def ayi:=rg [
bb9 11 .lss 10 9] [1,5,8,9,10,11]
def ayh:=rg [
bcg 12 5 8 10,bck 13 5 12,oo 7 (.alloc [(.int .i64 0),(.int .i64 0),(.int .u64 0),.nilS,(.int .i64 0)]),bcq 5 7 13] [1,5,7,8,9,10]
def ayg:=rg [
bcb 14 0 7,bcj 15 14,bcl 16 1,bb9 17 .eql 15 16,bcl 18 17,og 19 18 true (.fieldA 1 (.t 7)),og 20 18 true (.load none (.t 19)),og 21 18 true (.bin .eql (.t 20) (ci 2)),bco 22 18 21] [1,5,7,8,9,10,22]
def ayf:=rg [
bcl 23 5,bcb 24 3 7,bcj 25 24,bca 26 n_bg [(.t 25)],bca 27 n_cq [(.t 26)],oo 28 (.lit false 1 1 (.sl []) [(0,(.t 27))]),oo 29 (.append 1 24 (.t 23) (.t 28)),bcr 5 29] [1,5,8,9,10]
def aye:=rg [
bb8 30 .add 10 1,bcl 10 30] [1,5,8,9,10]
def a8n:ICode:=(.seq ayi (.seq (.cond (.t 11) .skip (.exit 0)) (.seq (.block 1 (.seq (.seq (.free 7) ayh) (.seq ayg (.cond (.t 22) ayf .skip)))) aye)))
def bav:=bce a8n.eq_1
def ayd:=rg [
bcl 31 5,bca 32 n_db [(.t 31)],bcr 4 32] [4]
def c_bv:ICode:=(.seq r_bv_0 (.seq r_bv_1 (.seq (.seq r_bv_2 (.block 0 (.loop a8n))) (.seq ayd .ret))))
def i_bv:IFunc:=⟨2,[.t 4],c_bv⟩
def a_bv:Advice:=⟨[29],zzz 7 [aye,ayf,ayg,ayh,ayi,r_bv_2,r_bv_1,r_bv_0]++[(8,[4])],[],[(4,[7])],[],[]⟩
def r_a9_0:=rg [
oo 4 (.asg (.c .nilS)),bb7 5 0] [0,1]
def r_a9_1:=rg [
oo 6 (.asg (.c .nilS))] [0,1,6]
def r_a9_2:=rg [
bcl 13 0,bci 14 false 13,oo 15 (.mv (ci 0))] [1,6,13,14,15]
def a5t:=rg [
bb9 16 .lss 15 14] [1,6,13,14,15,16]
def a5s:=rg [
bcg 17 5 13 15,bck 18 5 17,oo 8 (.alloc [(.int .i64 0),(.int .i64 0),(.int .u64 0),.nilS,(.int .i64 0)]),bcq 5 8 18] [1,6,8,13,14,15]
def a5r:=rg [
bcb 20 0 8,bcj 21 20,bcl 22 1,bb9 23 .neq 21 22,bcr 19 23] [1,6,8,13,14,15,19]
def a5q:=rg [
bcb 25 1 8,bcj 26 25,bb8 27 .eql 26 0,bcr 24 27] [1,6,8,13,14,15,24]
def a5p:=rg [
bcl 28 6,bcb 29 2 8,bcj 30 29,oo 31 (.lit false 1 1 (.int .u64 0) [(0,(.t 30))]),oo 32 (.append 1 8 (.t 28) (.t 31)),bcr 6 32] [1,6,13,14,15]
def a5o:=rg [
bcb 34 1 8,bcj 35 34,bb8 36 .eql 35 2,bcr 33 36] [1,6,8,13,14,15,33]
def a5n:=rg [
bb7 9 0] [1,6,8,9,13,14,15]
def ai9:=rg [
bcl 37 9,bcb 38 3 8,bcj 39 38,bci 40 false 39,bb9 41 .lss 37 40] [1,6,8,9,13,14,15,41]
def ai8:=rg [
bcb 43 3 8,bcj 44 43,bcl 45 9,bca 46 n_bk [(.t 44),(.t 45)],bcl 42 46,bcs 47 42 0,bcs 48 42 1,bcs 49 42 2,bcr 10 47,bcr 11 48,bcr 12 49] [1,6,8,9,10,11,12,13,14,15]
def ai7:=rg [
bcl 50 12,bb8 51 .neq 50 0] [1,6,8,9,10,11,12,13,14,15,51]
def ai6:=rg [
bcl 52 12,oo 4 (.asg (.c .nilS)),bcr 5 52] [4,5]
def ai5:=rg [
bcl 53 6,bcl 54 10,oo 55 (.lit false 1 1 (.int .u64 0) [(0,(.t 54))]),oo 56 (.append 1 8 (.t 53) (.t 55)),bcr 6 56] [1,6,8,9,11,13,14,15]
def ai4:=rg [
bcl 57 9,bcl 58 11,bb9 59 .add 57 58,bcr 9 59] [1,6,8,9,13,14,15]
def t9:ICode:=(.seq (.seq ai9 (.cond (.t 41) .skip (.exit 3))) (.block 4 (.seq ai8 (.seq (.seq ai7 (.cond (.t 51) (.seq ai6 .ret) .skip)) (.seq ai5 ai4)))))
def baw:=bce t9.eq_1
def tg:=rg [
bb8 60 .add 15 1,bcl 15 60] [1,6,13,14,15]
def qj:ICode:=(.seq a5t (.seq (.cond (.t 16) .skip (.exit 0)) (.seq (.block 1 (.seq (.seq (.free 8) a5s) (.block 2 (.seq a5r (.cond (.t 19) .skip (.seq a5q (.cond (.t 24) a5p (.seq a5o (.cond (.t 33) (.seq a5n (.block 3 (.loop t9))) .skip))))))))) tg)))
def bax:=bce qj.eq_1
def tf:=rg [
bcl 61 6,bca 62 n_da [(.t 61)],bcr 4 62,bb7 5 0] [4,5]
def c_a9:ICode:=(.seq r_a9_0 (.seq r_a9_1 (.seq (.seq r_a9_2 (.block 0 (.loop qj))) (.seq tf .ret))))
def i_a9:IFunc:=⟨2,[.t 4,.t 5],c_a9⟩
def a_a9:Advice:=⟨[32,56],zzz 15 [ai4,ai5,ai6,ai7,ai8,ai9,a5n,a5o,a5p,a5q,a5r,a5s,a5t,r_a9_2,r_a9_1,r_a9_0]++[(17,[4,5]),(16,[1,6,13,14,15])],[],[(4,[8])],[],[]⟩
def r_ao_0:=rg [
oo 2 (.alloc [(.int .i64 0),.nilS,.nilS,(.int .i64 0),(.int .i64 0),(.int .i64 0),(.int .i64 0),(.int .i64 0)]),bb7 3 0] [0,2]
def r_ao_1:=rg [
oo 4 (.alloc [(.int .i64 0),.nilS,.nilS,(.int .i64 0),(.int .i64 0),(.int .i64 0),(.int .i64 0),(.int .i64 0)])] [0,2,4]
def r_ao_2:=rg [
bb6 5 false] [0,2,4]
def r_ao_3:=rg [
bcl 15 0,bca 16 n_bo [(.t 15),(ci 1)],bcl 14 16,bcs 17 14 0,bcs 18 14 1,bcb 19 0 4,bcq 1 19 17,bcr 5 18] [0,2,4,5]
def r_ao_4:=rg [
bcl 20 5,bcn 21 20] [0,2,4,21]
@[go_sem] def r_ao_5_o:Ops:=[
bck 22 8 4,bcq 8 2 22,bb7 3 2]
def r_ao_5:=rg r_ao_5_o [2,3]
def r_ao_6:=rg [
bcl 24 0,bca 25 n_a9 [(.t 24),(ci 2)],bcl 23 25,bcs 26 23 0,bcs 27 23 1,bcr 6 26,bcr 7 27] [0,2,4,6,7]
def r_ao_7:=rg [
bcl 28 7,bb8 29 .neq 28 0] [0,2,4,6,7,29]
@[go_sem] def r_ao_8_o:Ops:=[
bck 30 8 4,bcl 31 7,bcq 8 2 30,bcr 3 31]
def r_ao_8:=rg r_ao_8_o [2,3]
def r_ao_9:=rg [
bcl 32 6,bci 33 false 32,oo 34 (.mv (ci 0))] [0,2,4,32,33,34]
def ahh:=rg [
bb9 35 .lss 34 33] [0,2,4,32,33,34,35]
def ahg:=rg [
bcg 36 1 32 34,bcj 37 36,bcr 9 37] [0,2,4,9,32,33,34]
def ahf:=rg [
bcl 38 9,oo 39 (.bin .gtr (.t 38) (.c (.int .u64 262144)))] [0,2,4,9,32,33,34,39]
@[go_sem] def a0w:Ops:=[
bck 40 8 4,bcq 8 2 40,bb7 3 2]
def a0x:=rg a0w [2,3]
def ahe:=rg [
bcb 41 1 4,bcj 42 41,bcl 43 9,oo 44 (.cvInt .i64 (.t 43)),oo 45 (.lit false 1 1 (.int .i64 0) [(0,(.t 44))]),oo 46 (.append 1 8 (.t 42) (.t 45)),bcb 47 1 4,bcq 1 47 46] [0,2,4,32,33,34]
def ahd:=rg [
bb8 48 .add 34 1,bcl 34 48] [0,2,4,32,33,34]
def akp:ICode:=(.seq ahh (.seq (.cond (.t 35) .skip (.exit 0)) (.seq (.block 1 (.seq ahg (.seq (.seq ahf (.cond (.t 39) (.seq a0x .ret) .skip)) ahe))) ahd)))
def bay:=bce akp.eq_1
def a0v:=rg [
bcl 49 0,bca 50 n_bv [(.t 49),(ci 3)],bci 51 false 50,oo 52 (.mv (ci 0))] [0,2,4,50,51,52]
def ahc:=rg [
bb9 53 .lss 52 51] [0,2,4,50,51,52,53]
def ahb:=rg [
bcg 54 1 50 52,bcj 55 54,bcr 11 55] [0,2,4,11,50,51,52]
def aha:=rg [
bcb 56 2 4,bcj 57 56,bcl 58 11,oo 59 (.b2s (.t 58)),oo 60 (.lit false 1 1 (.str []) [(0,(.t 59))]),oo 61 (.append 1 16 (.t 57) (.t 60)),bcb 62 2 4,bcq 1 62 61] [0,2,4,50,51,52]
def ag9:=rg [
bb8 63 .add 52 1,bcl 52 63] [0,2,4,50,51,52]
def ako:ICode:=(.seq ahc (.seq (.cond (.t 53) .skip (.exit 2)) (.seq (.block 3 (.seq ahb aha)) ag9)))
def baz:=bce ako.eq_1
def ag8:=rg [
bcb 64 3 4,bcb 65 4 4,bcb 66 5 4,oo 67 (.lit false 1 3 .nilP [(0,(.t 64)),(1,(.t 65)),(2,(.t 66))]),bci 68 false 67,oo 69 (.mv (ci 0))] [0,2,4,67,68,69]
def ag7:=rg [
bb9 70 .lss 69 68] [0,2,4,67,68,69,70]
def ag6:=rg [
bcl 71 69,bcg 72 1 67 69,bcj 73 72,bcr 12 71,bcr 13 73] [0,2,4,12,13,67,68,69]
def ag5:=rg [
bcl 75 13,bcl 76 0,bcl 77 12,oo 78 (.bin .add (ci 4) (.t 77)),bca 79 n_bo [(.t 76),(.t 78)],bcl 74 79,bcs 80 74 0,bcs 81 74 1,bcm 82 75,bcq 1 82 80,bcr 5 81] [0,2,4,5,67,68,69]
def ag4:=rg [
bcl 83 5,bcn 84 83] [0,2,4,67,68,69,84]
@[go_sem] def a0t:Ops:=[
bck 85 8 4,bcq 8 2 85,bb7 3 2]
def a0u:=rg a0t [2,3]
def ag3:=rg [
bb8 86 .add 69 1,bcl 69 86] [0,2,4,67,68,69]
def akn:ICode:=(.seq ag7 (.seq (.cond (.t 70) .skip (.exit 4)) (.seq (.block 5 (.seq ag6 (.seq ag5 (.seq ag4 (.cond (.t 84) (.seq a0u .ret) .skip))))) ag3)))
def ba0:=bce akn.eq_1
def ag2:=rg [
bck 87 8 4,bcq 8 2 87,bb7 3 0] [2,3]
def c_ao:ICode:=(.seq r_ao_0 (.seq r_ao_1 (.seq r_ao_2 (.seq (.seq r_ao_3 (.seq r_ao_4 (.cond (.t 21) (.seq r_ao_5 .ret) .skip))) (.seq r_ao_6 (.seq r_ao_7 (.cond (.t 29) (.seq r_ao_8 .ret) (.seq (.seq r_ao_9 (.block 0 (.loop akp))) (.seq (.seq a0v (.block 2 (.loop ako))) (.seq (.seq ag8 (.block 4 (.loop akn))) (.seq ag2 .ret)))))))))))
def i_ao:IFunc:=⟨1,[.cell 2 (some 8),.t 3],c_ao⟩
def a_ao:Advice:=⟨[46,61],zzz 20 [aha,.ret,.ret,.ret,.ret,ahd,ahe,.ret,ahf,ahg,ahh,r_ao_9,.ret,r_ao_7,r_ao_6,.ret,r_ao_4,r_ao_3,r_ao_2,r_ao_1,r_ao_0]++[(28,[2,3]),(27,[0,2,4,67,68,69]),(26,[2,3]),(25,[0,2,4,67,68,69,84]),(24,[0,2,4,5,67,68,69]),(23,[0,2,4,12,13,67,68,69]),(22,[0,2,4,67,68,69,70]),(21,[0,2,4,67,68,69]),(19,[0,2,4,50,51,52]),(18,[0,2,4,11,50,51,52]),(17,[0,2,4,50,51,52,53]),(16,[0,2,4,50,51,52]),(13,[2,3]),(8,[2,3]),(5,[2,3])],[],[],[],[]⟩
def r_az_0:=rg [
oo 1 (.box 9 (.t 0)),oo 2 (.alloc [(.int .i64 0),.nilS,.nilS,(.int .i64 0),(.int .i64 0),(.int .i64 0)]),bb7 3 0] [1,2]
def r_az_1:=rg [
oo 4 (.asg (.c .nilS))] [1,2,4]
def r_az_2:=rg [
bcb 9 0 1,oo 10 (.idxB 8 1 (.t 9) (ci 4)),bcj 11 10,bci 12 false 11,oo 13 (.mv (ci 0))] [2,4,11,12,13]
def ay3:=rg [
bb9 14 .lss 13 12] [2,4,11,12,13,14]
def ay2:=rg [
bcg 15 1 11 13,bcj 16 15,bcr 6 16] [2,4,6,11,12,13]
def ay1:=rg [
bcl 18 6,bca 19 n_ao [(.t 18)],bcl 17 19,bcs 20 17 0,bcs 21 17 1,oo 7 (.alloc [(.int .i64 0),.nilS,.nilS,(.int .i64 0),(.int .i64 0),(.int .i64 0),(.int .i64 0),(.int .i64 0)]),bcq 8 7 20,bcr 8 21] [2,4,7,8,11,12,13]
def ay0:=rg [
bcl 22 8,bb8 23 .neq 22 0] [2,4,7,8,11,12,13,23]
@[go_sem] def r_az_7_o:Ops:=[
oo 24 (.build [(.int .i64 0),.nilS,.nilS,(.int .i64 0),(.int .i64 0),(.int .i64 0)] []),bcl 25 8,bcq 6 2 24,bcr 3 25]
def r_az_7:=rg r_az_7_o [2,3]
def ayz:=rg [
bcl 26 4,bck 27 8 7,oo 28 (.lit false 8 1 (.agg [(.int .i64 0),(.sl []),(.sl []),(.int .i64 0),(.int .i64 0),(.int .i64 0),(.int .i64 0),(.int .i64 0)]) [(0,(.t 27))]),oo 29 (.append 8 96 (.t 26) (.t 28)),bcr 4 29] [2,4,11,12,13]
def ayy:=rg [
bb8 30 .add 13 1,bcl 13 30] [2,4,11,12,13]
def akk:ICode:=(.seq ay3 (.seq (.cond (.t 14) .skip (.exit 0)) (.seq (.block 1 (.seq ay2 (.seq (.seq (.free 7) ay1) (.seq (.seq ay0 (.cond (.t 23) (.seq r_az_7 .ret) .skip)) ayz)))) ayy)))
def ba1:=bce akk.eq_1
def agm:=rg [
bcl 31 4,bci 32 false 31,bb8 33 .eql 32 0] [2,4,33]
@[go_sem] def ay4:Ops:=[
oo 34 (.build [(.int .i64 0),.nilS,.nilS,(.int .i64 0),(.int .i64 0),(.int .i64 0)] []),bcq 6 2 34,bb7 3 2]
def ay5:=rg ay4 [2,3]
def agl:=rg [
bcl 35 4,bca 36 n_bn [(.t 35)],bcs 37 36 0,bcs 38 36 1,bcq 6 2 37,bcr 3 38] [2,3]
def c_az:ICode:=(.seq r_az_0 (.seq r_az_1 (.seq (.seq r_az_2 (.block 0 (.loop akk))) (.seq agm (.cond (.t 33) (.seq ay5 .ret) (.seq (.seq (.demote [4]) agl) .ret))))))
def i_az:IFunc:=⟨1,[.cell 2 (some 6),.t 3],c_az⟩
def a_az:Advice:=⟨[29],zzz 9 [ayy,ayz,.ret,ay0,ay1,ay2,ay3,r_az_2,r_az_1,r_az_0]++[(12,[2,3]),(11,[2,3]),(10,[2,4,33]),(7,[2,3])],[(12,[4])],[(5,[7])],[],[]⟩
def ba2:=bcc r_ai_0.eq_1 r_ai_1.eq_1 r_ai_3.eq_1 a15.eq_1 r_ai_9.eq_1 ah4.eq_1 a18.eq_1 ah3.eq_1
def ba3:=bcc ah2.eq_1 ah1.eq_1 ah0.eq_1 ahz.eq_1 ahy.eq_1 r_bt_0.eq_1 r_bt_1.eq_1 r_bu_0.eq_1
def ba4:=bcc r_bu_1.eq_1 r_bw_0.eq_1 r_bw_1.eq_1 r_aa_0.eq_1 r_aa_1.eq_1 r_aa_2.eq_1 r_aa_3.eq_1 r_aa_4.eq_1
def ba5:=bcc r_aa_5.eq_1 r_aa_6.eq_1 r_aa_8.eq_1 a5m.eq_1 a5l.eq_1 a5k.eq_1 a5h.eq_1 a5f.eq_1
def ba6:=bcc a5e.eq_1 a5d.eq_1 a5b.eq_1 a5a.eq_1 a49.eq_1 a46.eq_1 a44.eq_1 a43.eq_1
def ba7:=bcc a42.eq_1 a4z.eq_1 a4y.eq_1 a4x.eq_1 a4v.eq_1 a4u.eq_1 a4t.eq_1 a4o.eq_1
def ba8:=bcc a4m.eq_1 a4l.eq_1 a4j.eq_1 r_ab_0.eq_1 r_ab_1.eq_1 r_ab_2.eq_1 a4i.eq_1 a4h.eq_1
def ba9:=bcc a4g.eq_1 a4f.eq_1 a4e.eq_1 a4d.eq_1 a4c.eq_1 ai3.eq_1 ai2.eq_1 ai1.eq_1
def bba:=bcc ai0.eq_1 aiz.eq_1 aiy.eq_1 te.eq_1 aix.eq_1 aiv.eq_1 aiu.eq_1 ait.eq_1
def bbb:=bcc td.eq_1 tc.eq_1 ais.eq_1 r_ba_0.eq_1 r_ba_1.eq_1 r_ba_3.eq_1 r_bc_0.eq_1 ayx.eq_1
def bbc:=bcc ayw.eq_1 ayv.eq_1 ayu.eq_1 r_bz_0.eq_1 r_bz_1.eq_1 r_bf_0.eq_1 r_bf_1.eq_1 r_bf_3.eq_1
def bbd:=bcc r_ac_0.eq_1 r_ac_1.eq_1 r_ac_3.eq_1 r_ac_4.eq_1 r_ac_5.eq_1 a3e.eq_1 a4b.eq_1 a38.eq_1
def bbe:=bcc air.eq_1 a3r.eq_1 a3q.eq_1 aiq.eq_1 a3k.eq_1 a3j.eq_1 aip.eq_1 ain.eq_1
def bbf:=bcc a3i.eq_1 a3h.eq_1 a3f.eq_1 r_a6_0.eq_1 r_a6_1.eq_1 r_a6_2.eq_1 a58.eq_1 r_a6_8.eq_1
def bbg:=bcc a57.eq_1 ajg.eq_1 a59.eq_1 r_bl_0.eq_1 r_bl_1.eq_1 r_bl_3.eq_1 r_af_0.eq_1 r_af_1.eq_1
def bbh:=bcc r_af_2.eq_1 r_af_3.eq_1 r_af_4.eq_1 r_af_5.eq_1 r_af_6.eq_1 r_af_7.eq_1 r_af_8.eq_1 r_af_9.eq_1
def bbi:=bcc a3d.eq_1 a3c.eq_1 a3b.eq_1 a3a.eq_1 a29.eq_1 a28.eq_1 a27.eq_1 a26.eq_1
def bbj:=bcc a25.eq_1 aim.eq_1 ail.eq_1 aik.eq_1 aij.eq_1 aii.eq_1 aig.eq_1 aif.eq_1
def bbk:=bcc aie.eq_1 a24.eq_1 a23.eq_1 a22.eq_1 a21.eq_1 a20.eq_1 a2z.eq_1 a2y.eq_1
def bbl:=bcc a2x.eq_1 a2w.eq_1 r_al_0.eq_1 r_al_1.eq_1 r_al_2.eq_1 r_al_3.eq_1 r_al_4.eq_1 r_al_5.eq_1
def bbm:=bcc r_al_6.eq_1 r_al_7.eq_1 a04.eq_1 a03.eq_1 ahs.eq_1 ahr.eq_1 ahq.eq_1 ahp.eq_1
def bbn:=bcc aho.eq_1 r_bp_0.eq_1 r_bp_1.eq_1 r_bp_2.eq_1 r_am_0.eq_1 r_am_1.eq_1 r_am_2.eq_1 r_am_3.eq_1
def bbo:=bcc r_am_4.eq_1 a01.eq_1 a00.eq_1 a0z.eq_1 a0y.eq_1 a02.eq_1 ahn.eq_1 ahm.eq_1
def bbp:=bcc ahl.eq_1 ahk.eq_1 ahj.eq_1 ahi.eq_1 r_br_0.eq_1 r_br_1.eq_1 r_br_2.eq_1 r_aq_0.eq_1
def bbq:=bcc r_aq_1.eq_1 r_aq_3.eq_1 az6.eq_1 az4.eq_1 r_aq_9.eq_1 ag1.eq_1 agz.eq_1 az7.eq_1
def bbr:=bcc r_av_0.eq_1 r_av_1.eq_1 r_av_2.eq_1 r_av_4.eq_1 r_av_5.eq_1 r_av_6.eq_1 r_av_8.eq_1 r_av_9.eq_1
def bbs:=bcc az3.eq_1 az2.eq_1 az1.eq_1 r_aw_0.eq_1 r_aw_1.eq_1 r_aw_3.eq_1 r_aw_4.eq_1 azn.eq_1
def bbt:=bcc azm.eq_1 azl.eq_1 azk.eq_1 agy.eq_1 agx.eq_1 agw.eq_1 r_cd_0.eq_1 r_cd_1.eq_1
def bbu:=bcc r_cd_2.eq_1 r_ax_0.eq_1 r_ax_1.eq_1 r_ax_3.eq_1 r_ax_4.eq_1 azj.eq_1 azi.eq_1 azh.eq_1
def bbv:=bcc azg.eq_1 azf.eq_1 agv.eq_1 agu.eq_1 r_a5_0.eq_1 r_a5_1.eq_1 r_a5_3.eq_1 r_a5_4.eq_1
def bbw:=bcc r_a5_6.eq_1 a6c.eq_1 a6b.eq_1 a6a.eq_1 ajn.eq_1 ajm.eq_1 ajl.eq_1 ajk.eq_1
def bbx:=bcc ajj.eq_1 aji.eq_1 r_bn_0.eq_1 r_bn_1.eq_1 r_bn_2.eq_1 r_bn_3.eq_1 r_bn_5.eq_1 r_bn_6.eq_1
def bby:=bcc r_bn_8.eq_1 r_bv_0.eq_1 r_bv_1.eq_1 r_bv_2.eq_1 ayi.eq_1 ayh.eq_1 ayg.eq_1 ayf.eq_1
def bbz:=bcc aye.eq_1 ayd.eq_1 r_a9_0.eq_1 r_a9_1.eq_1 r_a9_2.eq_1 a5t.eq_1 a5s.eq_1 a5r.eq_1
def bb0:=bcc a5q.eq_1 a5p.eq_1 a5o.eq_1 a5n.eq_1 ai9.eq_1 ai8.eq_1 ai7.eq_1 ai6.eq_1
def bb1:=bcc ai5.eq_1 ai4.eq_1 tg.eq_1 tf.eq_1 r_ao_0.eq_1 r_ao_1.eq_1 r_ao_2.eq_1 r_ao_3.eq_1
def bb2:=bcc r_ao_4.eq_1 r_ao_6.eq_1 r_ao_7.eq_1 r_ao_9.eq_1 ahh.eq_1 ahg.eq_1 ahf.eq_1 ahe.eq_1
def bb3:=bcc ahd.eq_1 a0v.eq_1 ahc.eq_1 ahb.eq_1 aha.eq_1 ag9.eq_1 ag8.eq_1 ag7.eq_1
def bb4:=bcc ag6.eq_1 ag5.eq_1 ag4.eq_1 ag3.eq_1 ag2.eq_1 r_az_0.eq_1 r_az_1.eq_1 r_az_2.eq_1
def bb5:=bcc ay3.eq_1 ay2.eq_1 ay1.eq_1 ay0.eq_1 ayz.eq_1 ayy.eq_1 agm.eq_1 agl.eq_1
attribute [go_sem] a94 a95 a96 a97 a98 a99 baa bab bac bae baf bag bah bai baj bak bal bam ban bao bap baq bar bas bat bau bav baw bax bay baz ba0 ba1 ba2 ba3 ba4 ba5 ba6 ba7 ba8 ba9 bba bbb bbc bbd bbe bbf bbg bbh bbi bbj bbk bbl bbm bbn bbo bbp bbq bbr bbs bbt bbu bbv bbw bbx bby bbz bb0 bb1 bb2 bb3 bb4 bb5
