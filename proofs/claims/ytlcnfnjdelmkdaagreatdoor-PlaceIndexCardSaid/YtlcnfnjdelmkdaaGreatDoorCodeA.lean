import Derived.Test.YtlcnfnjdelmkdaaGreatDoorL10
import Derived.Test.YtlcnfnjdelmkdaaGreatDoorChecked
namespace Go.Proofs.YtlcnfnjdelmkdaaGreatDoor
set_option linter.defProp false
open Go.Ev Go
variable {X:Kx} {K:List Kf} {s:St}
def n_ab:FuncId:=3
def n_fu:FuncId:=4
def n_dj:FuncId:=5
def n_da:FuncId:=6
def n_dg:FuncId:=7
def n_al:FuncId:=8
def n_ai:FuncId:=9
def n_du:FuncId:=10
def n_dx:FuncId:=11
def n_bp:FuncId:=12
def n_a8:FuncId:=13
def n_eu:FuncId:=14
def n_av:FuncId:=17
def n_au:FuncId:=18
def n_d7:FuncId:=19
def n_fk:FuncId:=20
def n_a7:FuncId:=21
def n_b5:FuncId:=22
def n_dn:FuncId:=23
def n_en:FuncId:=24
def n_ak:FuncId:=25
def n_fj:FuncId:=26
def n_aw:FuncId:=27
def n_bw:FuncId:=28
def n_bb:FuncId:=29
def n_aa:FuncId:=30
def n_ba:FuncId:=31
def n_dk:FuncId:=32
def n_b7:FuncId:=33
def n_b0:FuncId:=34
def n_ae:FuncId:=35
def n_fe:FuncId:=36
def n_ey:FuncId:=39
def n_ag:FuncId:=42
def n_bh:FuncId:=43
def n_fp:FuncId:=44
def n_bq:FuncId:=45
def n_ga:FuncId:=46
def n_aq:FuncId:=47
def n_fm:FuncId:=48
def n_fh:FuncId:=49
def n_bx:FuncId:=50
def n_fv:FuncId:=51
def n_dr:FuncId:=52
def n_bc:FuncId:=53
def n_aj:FuncId:=54
def n_ax:FuncId:=55
def n_ez:FuncId:=56
def n_af:FuncId:=57
def n_bg:FuncId:=58
def n_dq:FuncId:=59
def n_di:FuncId:=60
def n_bz:FuncId:=61
def n_cu:FuncId:=62
def n_df:FuncId:=63
def n_ao:FuncId:=64
def n_ac:FuncId:=65
def n_ah:FuncId:=66
def n_eo:FuncId:=67
def n_cm:FuncId:=68
def n_dw:FuncId:=69
def n_gd:FuncId:=70
def n_dy:FuncId:=71
def n_br:FuncId:=72
def n_ce:FuncId:=73
def n_fg:FuncId:=74
def n_fw:FuncId:=75
def n_fc:FuncId:=76
def n_ap:FuncId:=79
def n_cd:FuncId:=80
def n_d6:FuncId:=81
def n_de:FuncId:=82
def n_co:FuncId:=83
def n_cr:FuncId:=84
def n_dl:FuncId:=85
def n_bk:FuncId:=86
def n_bm:FuncId:=87
def n_cf:FuncId:=88
def n_dv:FuncId:=89
def n_a6:FuncId:=90
def n_cl:FuncId:=91
def n_bo:FuncId:=92
def n_cc:FuncId:=93
def n_az:FuncId:=94
def n_dh:FuncId:=95
def n_cw:FuncId:=96
def n_bu:FuncId:=97
def n_c5:FuncId:=98
def n_am:FuncId:=99
def n_dt:FuncId:=100
def n_bl:FuncId:=101
def n_bv:FuncId:=102
def n_ew:FuncId:=111
def n_bt:FuncId:=112
def n_cx:FuncId:=113
def n_fy:FuncId:=115
def n_fb:FuncId:=116
def n_fa:FuncId:=117
def n_fq:FuncId:=118
def n_ay:FuncId:=119
def n_cz:FuncId:=120
def n_cy:FuncId:=121
def n_d8:FuncId:=122
def n_bn:FuncId:=123
def n_eh:FuncId:=124
def n_b9:FuncId:=125
def n_c6:FuncId:=126
def n_db:FuncId:=127
def n_dm:FuncId:=128
def n_fi:FuncId:=129
def n_ef:FuncId:=131
def n_ft:FuncId:=132
def n_e9:FuncId:=133
def n_dc:FuncId:=134
def n_ej:FuncId:=135
def n_em:FuncId:=136
def n_ct:FuncId:=137
def n_dz:FuncId:=138
def n_b6:FuncId:=146
def n_ck:FuncId:=147
def n_fz:FuncId:=148
def n_gc:FuncId:=149
def n_ed:FuncId:=150
def n_cq:FuncId:=156
def n_fo:FuncId:=159
@[go_sem] def r_fc_0_o:Ops:=[
by5 4 false]
def r_fc_0:=rg r_fc_0_o [0,1]
@[go_sem] def r_fc_1_o:Ops:=[
bzk 5 0,oo 6 (.b2s (.t 5)),bzk 7 1,oo 8 (.b2s (.t 7)),by8 9 .eql 6 8,bzq 4 9]
def r_fc_1:=rg r_fc_1_o [4]
def c_fc:ICode:=(.seq r_fc_0 (.seq r_fc_1 .ret))
def i_fc:IFunc:=⟨2,[.t 4],c_fc⟩
def a_fc:=zzy ([(1,[4]),(0,[0,1])])
@[go_sem] def r_fe_0_o:Ops:=[
oo 2 (.box 5 (.t 0)),oo 3 (.box 5 (.t 1)),by5 4 false]
def r_fe_0:=rg r_fe_0_o [2,3]
@[go_sem] def r_fe_1_o:Ops:=[
bza 5 0 2,bzi 6 5,bza 7 0 3,bzi 8 7,oo 9 (.eqn false .bool (.t 6) (.t 8)),bzk 10 9,og 11 10 true (.fieldA 1 (.t 2)),og 12 10 true (.load none (.t 11)),og 13 10 true (.fieldA 1 (.t 3)),og 14 10 true (.load none (.t 13)),og 15 10 true (.bin .eql (.t 12) (.t 14)),bzn 16 10 15,bzk 17 16,og 18 17 true (.fieldA 2 (.t 2)),og 19 17 true (.load none (.t 18)),og 20 17 true (.fieldA 2 (.t 3)),og 21 17 true (.load none (.t 20)),og 22 17 true (.bin .eql (.t 19) (.t 21)),bzn 23 17 22,bzk 24 23,og 25 24 true (.fieldA 3 (.t 2)),og 26 24 true (.load none (.t 25)),og 27 24 true (.fieldA 3 (.t 3)),og 28 24 true (.load none (.t 27)),og 29 24 true (.call false n_fc [(.t 26),(.t 28)]),bzn 30 24 29,bzk 31 30,og 32 31 true (.fieldA 4 (.t 2)),og 33 31 true (.load none (.t 32)),og 34 31 true (.len false (.t 33)),og 35 31 true (.fieldA 4 (.t 3)),og 36 31 true (.load none (.t 35)),og 37 31 true (.len false (.t 36)),og 38 31 true (.bin .eql (.t 34) (.t 37)),bzn 39 31 38,bzq 4 39]
def r_fe_1:=rg r_fe_1_o [4]
def c_fe:ICode:=(.seq r_fe_0 (.seq r_fe_1 .ret))
def i_fe:IFunc:=⟨2,[.t 4],c_fe⟩
def a_fe:=zzy ([(1,[4]),(0,[2,3])])
def r_eu_0:=rg [
oo 2 (.box 15 (.t 0)),oo 3 (.box 15 (.t 1)),by5 4 false] [2,3]
def r_eu_1:=rg [
bza 5 0 2,bzi 6 5,bza 7 0 3,bzi 8 7,by8 9 .eql 6 8,bzk 10 9,og 11 10 true (.fieldA 1 (.t 2)),og 12 10 true (.load none (.t 11)),og 13 10 true (.fieldA 1 (.t 3)),og 14 10 true (.load none (.t 13)),og 15 10 true (.eqn false .bool (.t 12) (.t 14)),bzn 16 10 15,bzk 17 16,og 18 17 true (.fieldA 2 (.t 2)),og 19 17 true (.load none (.t 18)),og 20 17 true (.fieldA 2 (.t 3)),og 21 17 true (.load none (.t 20)),og 22 17 true (.eqn false .bool (.t 19) (.t 21)),bzn 23 17 22,bzk 24 23,og 25 24 true (.fieldA 3 (.t 2)),og 26 24 true (.load (some 5) (.t 25)),og 27 24 true (.fieldA 3 (.t 3)),og 28 24 true (.load (some 5) (.t 27)),og 29 24 true (.call false n_fe [(.t 26),(.t 28)]),bzn 30 24 29,bzk 31 30,og 32 31 true (.fieldA 8 (.t 2)),og 33 31 true (.load (some 5) (.t 32)),og 34 31 true (.fieldA 8 (.t 3)),og 35 31 true (.load (some 5) (.t 34)),og 36 31 true (.call false n_fe [(.t 33),(.t 35)]),bzn 37 31 36,bzk 38 37,og 39 38 true (.fieldA 13 (.t 2)),og 40 38 true (.load none (.t 39)),og 41 38 true (.fieldA 13 (.t 3)),og 42 38 true (.load none (.t 41)),og 43 38 true (.eqn false .bool (.t 40) (.t 42)),bzn 44 38 43,bzk 45 44,og 46 45 true (.fieldA 14 (.t 2)),og 47 45 true (.load none (.t 46)),og 48 45 true (.fieldA 14 (.t 3)),og 49 45 true (.load none (.t 48)),og 50 45 true (.bin .eql (.t 47) (.t 49)),bzn 51 45 50,bzq 4 51] [4]
def c_eu:ICode:=(.seq r_eu_0 (.seq r_eu_1 .ret))
def i_eu:IFunc:=⟨2,[.t 4],c_eu⟩
def a_eu:=zzy (zzz 1 [r_eu_1,r_eu_0])
def r_b0_0:=rg [
oo 6 (.asg (.c .nilS))] [0,1,2]
def r_b0_1:=rg [
bzk 7 1,by9 8 n_dy [(.t 7)],bzm 9 8] [0,1,2,9]
@[go_sem] def r_b0_2_o:Ops:=[
bzk 10 0,bzq 6 10]
def r_b0_2:=rg r_b0_2_o [6]
def r_b0_3:=rg [
bzk 11 0,bzk 12 1,oo 13 (.cvInt .u64 (.t 12)),oo 14 (.bin .shl (.t 13) (.c (.int .u64 3))),oo 15 (.bin .or (.t 14) (.c (.int .u64 2))),oo 16 (.callg true n_br [(.t 11),(.t 15)] 0),bzk 17 2,bzh 18 false 17,oo 19 (.cvInt .u64 (.t 18)),oo 20 (.callg true n_br [(.t 16),(.t 19)] 0),bzk 21 2,oo 22 (.append 1 1 (.t 20) (.t 21)),bzq 6 22] [6]
def c_b0:ICode:=(.seq r_b0_0 (.seq r_b0_1 (.cond (.t 9) (.seq r_b0_2 .ret) (.seq r_b0_3 .ret))))
def i_b0:IFunc:=⟨3,[.t 6],c_b0⟩
def a_b0:Advice:=⟨[16,20],zzz 3 [r_b0_3,.ret,r_b0_1,r_b0_0]++[(2,[6])],[],[],[(16,0),(20,0)],[]⟩
@[go_sem] def r_ew_0_o:Ops:=[
oo 2 (.asg (.c (.int .u64 0)))]
def r_ew_0:=rg r_ew_0_o [0]
@[go_sem] def r_ew_1_o:Ops:=[
bzk 3 0,by7 4 .lss 3 0]
def r_ew_1:=rg r_ew_1_o [0,4]
@[go_sem] def r_ew_2_o:Ops:=[
bzk 5 0,by7 6 .add 5 1,oo 7 (.bin .sub (ci 0) (.t 6)),oo 8 (.cvInt .u64 (.t 7)),oo 9 (.bin .shl (.t 8) (.c (.int .u64 1))),oo 10 (.bin .or (.t 9) (.c (.int .u64 1))),bzq 2 10]
def r_ew_2:=rg r_ew_2_o [2]
@[go_sem] def r_ew_3_o:Ops:=[
bzk 11 0,oo 12 (.cvInt .u64 (.t 11)),oo 13 (.bin .shl (.t 12) (.c (.int .u64 1))),bzq 2 13]
def r_ew_3:=rg r_ew_3_o [2]
def c_ew:ICode:=(.seq r_ew_0 (.seq r_ew_1 (.cond (.t 4) (.seq r_ew_2 .ret) (.seq r_ew_3 .ret))))
def i_ew:IFunc:=⟨1,[.t 2],c_ew⟩
def a_ew:=zzy ([(3,[2]),(2,[2]),(1,[0,4]),(0,[0])])
def r_br_0:=rg [
oo 4 (.asg (.c .nilS))] [0,1]
def bi3:=rg [
bzk 5 1,oo 6 (.bin .geq (.t 5) (.c (.int .u64 128)))] [0,1,6]
def bi2:=rg [
bzk 7 0,bzk 8 1,oo 9 (.bin .and (.t 8) (.c (.int .u64 127))),oo 10 (.bin .or (.t 9) (.c (.int .u64 128))),oo 11 (.cvInt .u8 (.t 10)),oo 12 (.lit false 1 1 (.int .u8 0) [(0,(.t 11))]),oo 13 (.append 1 1 (.t 7) (.t 12)),bzq 0 13] [0,1]
def bi1:=rg [
bzk 14 1,oo 15 (.bin .shr (.t 14) (.c (.int .u64 7))),bzq 1 15] [0,1]
def btu:ICode:=(.seq (.seq bi3 (.cond (.t 6) .skip (.exit 0))) (.block 1 (.seq bi2 bi1)))
def bvz:=bzd btu.eq_1
def bi0:=rg [
bzk 16 0,bzk 17 1,oo 18 (.cvInt .u8 (.t 17)),oo 19 (.lit false 1 1 (.int .u8 0) [(0,(.t 18))]),oo 20 (.append 1 1 (.t 16) (.t 19)),bzq 4 20] [4]
def c_br:ICode:=(.seq r_br_0 (.seq (.block 0 (.loop btu)) (.seq bi0 .ret)))
def i_br:IFunc:=⟨2,[.t 4],c_br⟩
def a_br:Advice:=⟨[13],zzz 3 [bi1,bi2,bi3,r_br_0]++[(4,[4])],[],[],[],[]⟩
def r_dy_0:=rg [
by5 2 false] [0]
def r_dy_1:=rg [
bzk 3 0,by7 4 .geq 3 1,bzk 5 4,bzc 6 5 true 0,og 7 5 true (.bin .leq (.t 6) (ci 536870911)),bzn 8 5 7,bzq 2 8] [2]
def c_dy:ICode:=(.seq r_dy_0 (.seq r_dy_1 .ret))
def i_dy:IFunc:=⟨1,[.t 2],c_dy⟩
def a_dy:=zzy (zzz 1 [r_dy_1,r_dy_0])
def r_ce_0:=rg [
oo 6 (.asg (.c .nilS))] [0,1,2]
def r_ce_1:=rg [
bzk 7 1,by9 8 n_dy [(.t 7)],bzm 9 8] [0,1,2,9]
@[go_sem] def r_ce_2_o:Ops:=[
bzk 10 0,bzq 6 10]
def r_ce_2:=rg r_ce_2_o [6]
def r_ce_3:=rg [
bzk 11 0,bzk 12 1,oo 13 (.cvInt .u64 (.t 12)),oo 14 (.bin .shl (.t 13) (.c (.int .u64 3))),oo 15 (.callg true n_br [(.t 11),(.t 14)] 0),bzk 16 2,oo 17 (.callg true n_br [(.t 15),(.t 16)] 0),bzq 6 17] [6]
def c_ce:ICode:=(.seq r_ce_0 (.seq r_ce_1 (.cond (.t 9) (.seq r_ce_2 .ret) (.seq r_ce_3 .ret))))
def i_ce:IFunc:=⟨3,[.t 6],c_ce⟩
def a_ce:Advice:=⟨[15,17],zzz 3 [r_ce_3,.ret,r_ce_1,r_ce_0]++[(2,[6])],[],[],[(15,0),(17,0)],[]⟩
def r_ae_0:=rg [
oo 2 (.box 6 (.t 0)),oo 3 (.box 15 (.t 1)),oo 4 (.asg (.c .nilS))] [2,3]
def r_ae_1:=rg [
bza 9 0 3,bzi 10 9,oo 11 (.cvInt .u64 (.t 10)),oo 12 (.callg true n_ce [(.c .nilS),(ci 1),(.t 11)] 0),bzq 5 12] [2,3,5]
def r_ae_2:=rg [
oo 6 (.asg (.c .nilS))] [2,3,5,6]
def r_ae_3:=rg [
by6 7 0] [2,3,5,6,7]
def r_ae_4:=rg [
bza 14 0 2,bzi 15 14,by9 16 n_dq [(.t 15)],bzq 13 16] [2,3,5,6,7,13]
def r_ae_5:=rg [
by6 7 2] [3,5,6,7]
def r_ae_6:=rg [
bza 17 2 3,bzi 18 17] [3,5,6,7,18]
@[go_sem] def r_ae_7_o:Ops:=[
bzk 19 6,bza 20 3 3,bza 21 1 20,bzi 22 21,oo 23 (.callg true n_fg [(.t 19),(ci 1),(.t 22)] 0),bza 24 8 3,bza 25 1 24,bzi 26 25,oo 27 (.callg true n_fg [(.t 23),(ci 2),(.t 26)] 0),bzq 6 27]
def r_ae_7_n:List (Nat×Nat):=[(0,1),(0,2),(0,3),(0,5),(1,5),(2,5),(3,5),(4,5),(0,6),(1,6),(2,6),(3,6),(4,6),(0,7),(1,7),(2,7),(3,7),(4,7)]
def r_ae_7:ICode:= .region r_ae_7_o r_ae_7_n [3,5,6,7]
def r_ae_8:=rg [
bza 28 13 3,bzi 29 28] [3,5,6,7,29]
@[go_sem] def r_ae_9_o:Ops:=[
bzk 30 6,bza 31 14 3,bzi 32 31,oo 33 (.callg true n_fg [(.t 30),(ci 3),(.t 32)] 0),bzq 6 33]
def r_ae_9:=rg r_ae_9_o [3,5,6,7]
def bqj:=rg [
bza 35 0 2,bzi 36 35,by9 37 n_di [(.t 36)],bzq 34 37] [2,3,5,6,7,34]
def bqi:=rg [
by6 7 4] [3,5,6,7]
def bqh:=rg [
bza 38 2 3,bzi 39 38] [3,5,6,7,39]
@[go_sem] def bqf:Ops:=[
bzk 40 6,bza 41 3 3,bza 42 3 41,bzi 43 42,oo 44 (.callg true n_b0 [(.t 40),(ci 1),(.t 43)] 0),bza 45 8 3,bza 46 3 45,bzi 47 46,oo 48 (.callg true n_b0 [(.t 44),(ci 2),(.t 47)] 0),bzq 6 48]
def bqg:List (Nat×Nat):=[(0,1),(0,2),(0,3),(0,5),(1,5),(2,5),(3,5),(4,5),(0,6),(1,6),(2,6),(3,6),(4,6),(0,7),(1,7),(2,7),(3,7),(4,7)]
def r_ae_13:ICode:= .region bqf bqg [3,5,6,7]
def bqe:=rg [
bza 49 13 3,bzi 50 49] [3,5,6,7,50]
@[go_sem] def bqd:Ops:=[
bzk 51 6,bza 52 14 3,bzi 53 52,oo 54 (.callg true n_fg [(.t 51),(ci 3),(.t 53)] 0),bzq 6 54]
def r_ae_15:=rg bqd [3,5,6,7]
def bqc:=rg [
bza 56 0 2,bzi 57 56,by7 58 .eql 57 0,bzq 55 58] [2,3,5,6,7,55]
def bqb:=rg [
by6 7 5] [3,5,6,7]
def bqa:=rg [
bza 59 13 3,bzi 60 59] [3,5,6,7,60]
@[go_sem] def bp9:Ops:=[
bzk 61 6,bza 62 14 3,bzi 63 62,oo 64 (.cvInt .u64 (.t 63)),oo 65 (.callg false n_br [(.c .nilS),(.t 64)] 0),oo 66 (.callg true n_b0 [(.t 61),(ci 1),(.t 65)] 0),bzq 6 66]
def r_ae_19:=rg bp9 [3,5,6,7]
def bp8:=rg [
bza 68 0 2,bzi 69 68,by7 70 .eql 69 14,bzq 67 70] [2,3,5,6,7,67]
def bp7:=rg [
by6 7 6] [2,3,5,6,7]
def bp6:=rg [
bza 71 2 3,bzi 72 71] [2,3,5,6,7,72]
@[go_sem] def bp4:Ops:=[
bzk 73 6,bza 74 3 3,bza 75 1 74,bzi 76 75,bza 77 5 2,bzi 78 77,by9 79 n_fw [(.t 76),(.t 78)],oo 80 (.s2b false (.t 79)),oo 81 (.callg true n_b0 [(.t 73),(ci 1),(.t 80)] 0),bza 82 8 3,bza 83 1 82,bzi 84 83,bza 85 5 2,bzi 86 85,by9 87 n_fw [(.t 84),(.t 86)],oo 88 (.s2b false (.t 87)),oo 89 (.callg true n_b0 [(.t 81),(ci 2),(.t 88)] 0),bzq 6 89]
def bp5:List (Nat×Nat):=[(0,1),(0,2),(0,3),(0,4),(1,4),(2,4),(3,4),(0,5),(1,5),(2,5),(3,5),(0,6),(0,7),(0,9),(1,9),(2,9),(3,9),(4,9),(5,9),(6,9),(7,9),(8,9),(0,10),(1,10),(2,10),(3,10),(4,10),(5,10),(6,10),(7,10),(8,10),(0,11),(1,11),(2,11),(3,11),(4,11),(5,11),(6,11),(7,11),(8,11),(0,12),(1,12),(2,12),(3,12),(4,12),(5,12),(6,12),(7,12),(8,12),(9,12),(10,12),(11,12),(0,13),(1,13),(2,13),(3,13),(4,13),(5,13),(6,13),(7,13),(8,13),(9,13),(10,13),(11,13)]
def r_ae_23:ICode:= .region bp4 bp5 [2,3,5,6,7]
def bp3:=rg [
bza 90 13 3,bzi 91 90] [2,3,5,6,7,91]
@[go_sem] def bp2:Ops:=[
bzk 92 6,bza 93 14 3,bzi 94 93,bza 95 5 2,bzi 96 95,by9 97 n_fw [(.t 94),(.t 96)],oo 98 (.s2b false (.t 97)),oo 99 (.callg true n_b0 [(.t 92),(ci 3),(.t 98)] 0),bzq 6 99]
def r_ae_25:=rg bp2 [3,5,6,7]
def bp1:=rg [
bza 101 0 2,bzi 102 101,by7 103 .eql 102 15,bzq 100 103] [2,3,5,6,7,100]
def bp0:=rg [
by6 7 7] [3,5,6,7]
def bpz:=rg [
bza 104 2 3,bzi 105 104] [3,5,6,7,105]
@[go_sem] def bpx:Ops:=[
bzk 106 6,bza 107 3 3,bza 108 1 107,bzi 109 108,oo 110 (.callg true n_fg [(.t 106),(ci 1),(.t 109)] 0),bza 111 8 3,bza 112 1 111,bzi 113 112,oo 114 (.callg true n_fg [(.t 110),(ci 2),(.t 113)] 0),bzq 6 114]
def bpy:List (Nat×Nat):=[(0,1),(0,2),(0,3),(0,5),(1,5),(2,5),(3,5),(4,5),(0,6),(1,6),(2,6),(3,6),(4,6),(0,7),(1,7),(2,7),(3,7),(4,7)]
def r_ae_29:ICode:= .region bpx bpy [3,5,6,7]
def bpw:=rg [
bza 116 0 2,bzi 117 116,by7 118 .eql 117 8,bzq 115 118] [2,3,5,6,7,115]
def bpv:=rg [
by6 7 8] [3,5,6,7]
def bpu:=rg [
bza 119 13 3,bzi 120 119] [3,5,6,7,120]
@[go_sem] def bpt:Ops:=[
bzk 121 6,bza 122 14 3,bzi 123 122,oo 124 (.callg true n_fg [(.t 121),(ci 1),(.t 123)] 0),bzq 6 124]
def r_ae_33:=rg bpt [3,5,6,7]
def bps:=rg [
bza 126 0 2,bzi 127 126,by7 128 .eql 127 9,bzq 125 128] [3,5,6,7,125]
def bpr:=rg [
by6 7 9] [3,5,6,7]
def bpq:=rg [
bza 129 2 3,bzi 130 129] [3,5,6,7,130]
@[go_sem] def bpo:Ops:=[
bzk 131 6,bza 132 3 3,bza 133 1 132,bzi 134 133,oo 135 (.callg true n_fg [(.t 131),(ci 1),(.t 134)] 0),bza 136 8 3,bza 137 1 136,bzi 138 137,oo 139 (.callg true n_fg [(.t 135),(ci 2),(.t 138)] 0),bzq 6 139]
def bpp:List (Nat×Nat):=[(0,1),(0,2),(0,3),(0,5),(1,5),(2,5),(3,5),(4,5),(0,6),(1,6),(2,6),(3,6),(4,6),(0,7),(1,7),(2,7),(3,7),(4,7)]
def r_ae_37:ICode:= .region bpo bpp [3,5,6,7]
@[go_sem] def bpm:Ops:=[
bzk 140 6,bza 141 3 3,bza 142 2 141,bzi 143 142,oo 144 (.cvInt .u64 (.t 143)),oo 145 (.callg true n_ce [(.t 140),(ci 3),(.t 144)] 0),bza 146 8 3,bza 147 2 146,bzi 148 147,oo 149 (.cvInt .u64 (.t 148)),oo 150 (.callg true n_ce [(.t 145),(ci 4),(.t 149)] 0),bzq 6 150]
def bpn:List (Nat×Nat):=[(0,1),(0,2),(0,3),(0,4),(0,6),(1,6),(2,6),(3,6),(4,6),(5,6),(0,7),(1,7),(2,7),(3,7),(4,7),(5,7),(0,8),(1,8),(2,8),(3,8),(4,8),(5,8),(0,9),(1,9),(2,9),(3,9),(4,9),(5,9)]
def r_ae_38:ICode:= .region bpm bpn [3,5,6,7]
def bpl:=rg [
bzk 151 7,by7 152 .gtr 151 0,bzk 153 152,og 154 153 true (.fieldA 2 (.t 3)),og 155 153 true (.load none (.t 154)),bzc 156 153 true 155,og 157 156 false (.fieldA 13 (.t 3)),og 158 156 false (.load none (.t 157)),og 159 153 true (.pick (.t 156) (.c (.bool true)) (.t 158)),bzn 160 153 159] [3,5,6,7,160]
@[go_sem] def bpk:Ops:=[
bzk 161 5,bzk 162 7,bzk 163 6,oo 164 (.callg true n_b0 [(.t 161),(.t 162),(.t 163)] 0),bzq 5 164]
def r_ae_40:=rg bpk [3,5]
def bpj:=rg [
oo 8 (.asg (.c (.int .u64 0)))] [3,5,8]
def bpi:=rg [
bza 165 1 3,bzi 166 165] [5,8,166]
def bph:=rg [
oo 8 (.asg (.c (.int .u64 1)))] [5,8]
def bpg:=rg [
bzk 167 5,bzk 168 8,oo 169 (.callg true n_ce [(.t 167),(ci 10),(.t 168)] 0),bzq 4 169] [4]
def c_ae:ICode:=(.seq r_ae_0 (.seq r_ae_1 (.seq r_ae_2 (.seq r_ae_3 (.seq (.block 0 (.seq r_ae_4 (.cond (.t 13) (.seq r_ae_5 (.seq (.seq r_ae_6 (.cond (.t 18) r_ae_7 .skip)) (.seq r_ae_8 (.cond (.t 29) r_ae_9 .skip)))) (.seq bqj (.cond (.t 34) (.seq bqi (.seq (.seq bqh (.cond (.t 39) r_ae_13 .skip)) (.seq bqe (.cond (.t 50) r_ae_15 .skip)))) (.seq bqc (.cond (.t 55) (.seq bqb (.seq bqa (.cond (.t 60) r_ae_19 .skip))) (.seq bp8 (.cond (.t 67) (.seq bp7 (.seq (.seq bp6 (.cond (.t 72) r_ae_23 .skip)) (.seq bp3 (.cond (.t 91) r_ae_25 .skip)))) (.seq bp1 (.cond (.t 100) (.seq bp0 (.seq bpz (.cond (.t 105) r_ae_29 .skip))) (.seq bpw (.cond (.t 115) (.seq bpv (.seq bpu (.cond (.t 120) r_ae_33 .skip))) (.seq bps (.cond (.t 125) (.seq bpr (.seq bpq (.cond (.t 130) (.seq r_ae_37 r_ae_38) .skip))) .skip))))))))))))))) (.seq (.seq bpl (.cond (.t 160) (.seq (.demote [6]) r_ae_40) .skip)) (.seq bpj (.seq (.seq bpi (.cond (.t 166) bph .skip)) (.seq bpg .ret)))))))))
def i_ae:IFunc:=⟨2,[.t 4],c_ae⟩
def a_ae:Advice:=⟨[12,23,27,33,44,48,54,66,81,89,99,110,114,124,135,139,145,150,164,169],zzz 44 [bpg,bph,bpi,bpj,.ret,bpl,.ret,.ret,bpq,bpr,bps,.ret,bpu,bpv,bpw,.ret,bpz,bp0,bp1,.ret,bp3,.ret,bp6,bp7,bp8,.ret,bqa,bqb,bqc,.ret,bqe,.ret,bqh,bqi,bqj,.ret,r_ae_8,.ret,r_ae_6,r_ae_5,r_ae_4,r_ae_3,r_ae_2,r_ae_1,r_ae_0]++[(40,[3,5]),(9,[3,5,6,7]),(7,[3,5,6,7]),(15,[3,5,6,7]),(13,[3,5,6,7]),(19,[3,5,6,7]),(25,[3,5,6,7]),(23,[2,3,5,6,7]),(29,[3,5,6,7]),(33,[3,5,6,7]),(38,[3,5,6,7]),(37,[3,5,6,7])],[(40,[6])],[],[(12,0),(23,0),(27,0),(33,0),(44,0),(48,0),(54,0),(65,0),(66,0),(81,0),(89,0),(99,0),(110,0),(114,0),(124,0),(135,0),(139,0),(145,0),(150,0),(164,0),(169,0)],[]⟩
def r_a8_0:=rg [
oo 2 (.box 6 (.t 0)),oo 4 (.asg (.c .nilS))] [1,2]
def r_a8_1:=rg [
oo 5 (.asg (.c .nilS))] [1,2,5]
def r_a8_2:=rg [
by6 6 0] [1,2,5,6]
def bri:=rg [
bzk 7 6,bzk 8 1,bzh 9 false 8,by8 10 .lss 7 9] [1,2,5,6,10]
@[go_sem] def bdq:Ops:=[
bzk 13 5,bzj 14 6 2,bzk 15 1,bzk 16 6,bzf 17 15 15 16,bzj 18 15 17,by9 19 n_ae [(.t 14),(.t 18)],oo 20 (.callg false n_b0 [(.c .nilS),(ci 2),(.t 19)] 0),oo 21 (.callg true n_b0 [(.t 13),(ci 1),(.t 20)] 0),bzq 5 21]
def bdr:List (Nat×Nat):=[(0,1),(0,2),(1,2),(0,3),(1,3),(2,3),(0,4),(1,4),(0,5),(1,5),(0,6),(0,7)]
def brh:ICode:= .region bdq bdr [1,2,5,6]
@[go_sem] theorem r_a8_4_u:Gu X K s brh bdr bdq [1,2,5,6]:=go_regionU' _ _ _ _
def brg:=rg [
bzk 11 6,by7 12 .add 11 1,bzq 6 12] [1,2,5,6]
def an5:ICode:=(.seq (.seq bri (.cond (.t 10) .skip (.exit 0))) (.seq (.block 1 brh) brg))
def bv0:=bzd an5.eq_1
def brf:=rg [
bzk 22 5,bzq 4 22] [4]
def c_a8:ICode:=(.seq r_a8_0 (.seq r_a8_1 (.seq (.seq r_a8_2 (.block 0 (.loop an5))) (.seq brf .ret))))
def i_a8:IFunc:=⟨2,[.t 4],c_a8⟩
def a_a8:Advice:=⟨[21],zzz 5 [brg,.ret,bri,r_a8_2,r_a8_1,r_a8_0]++[(6,[4]),(4,[1,2,5,6])],[],[],[(20,0),(21,0)],[]⟩
def r_ba_0:=rg [
oo 2 (.box 5 (.t 0)),oo 3 (.box 5 (.t 1)),by5 4 false] [2,3]
def r_ba_1:=rg [
bza 6 0 2,bzi 7 6,bza 8 0 3,bzi 9 8,oo 10 (.eqn true .bool (.t 7) (.t 9)),bzk 11 10,og 12 11 false (.fieldA 1 (.t 2)),og 13 11 false (.load none (.t 12)),og 14 11 false (.fieldA 1 (.t 3)),og 15 11 false (.load none (.t 14)),og 16 11 false (.bin .neq (.t 13) (.t 15)),bzo 17 11 16,bzk 18 17,og 19 18 false (.fieldA 2 (.t 2)),og 20 18 false (.load none (.t 19)),og 21 18 false (.fieldA 2 (.t 3)),og 22 18 false (.load none (.t 21)),og 23 18 false (.bin .neq (.t 20) (.t 22)),bzo 24 18 23,bzk 25 24,og 26 25 false (.fieldA 3 (.t 2)),og 27 25 false (.load none (.t 26)),og 28 25 false (.b2s (.t 27)),og 29 25 false (.fieldA 3 (.t 3)),og 30 25 false (.load none (.t 29)),og 31 25 false (.b2s (.t 30)),og 32 25 false (.bin .neq (.t 28) (.t 31)),bzo 33 25 32,bzk 34 33,og 35 34 false (.fieldA 4 (.t 2)),og 36 34 false (.load none (.t 35)),og 37 34 false (.len false (.t 36)),og 38 34 false (.fieldA 4 (.t 3)),og 39 34 false (.load none (.t 38)),og 40 34 false (.len false (.t 39)),og 41 34 false (.bin .neq (.t 37) (.t 40)),bzo 42 34 41] [2,3,42]
def r_ba_2:=rg [
by5 4 false] [4]
def r_ba_3:=rg [
by6 5 0] [2,3,5]
def bkh:=rg [
bzk 43 5,bza 44 4 2,bzi 45 44,bzh 46 false 45,by8 47 .lss 43 46] [2,3,5,47]
@[go_sem] def a6r:Ops:=[
bza 50 4 2,bzi 51 50,bzk 52 5,bzf 53 5 51 52,bzj 54 5 53,bza 55 4 3,bzi 56 55,bzk 57 5,bzf 58 5 56 57,bzj 59 5 58,by9 60 n_ba [(.t 54),(.t 59)],bzm 61 60]
def a6s:List (Nat×Nat):=[(0,2),(1,2),(0,5),(1,5),(2,5),(3,5),(4,5),(0,6),(1,6),(2,6),(3,6),(4,6),(0,7),(1,7),(2,7),(3,7),(4,7),(5,7),(6,7),(0,8),(1,8),(2,8),(3,8),(4,8),(0,9),(1,9),(2,9),(3,9),(4,9)]
def bkg:ICode:= .region a6r a6s [2,3,5,61]
@[go_sem] theorem r_ba_5_u:Gu X K s bkg a6s a6r [2,3,5,61]:=go_regionU' _ _ _ _
def bkf:=rg [
by5 4 false] [4]
def bke:=rg [
bzk 48 5,by7 49 .add 48 1,bzq 5 49] [2,3,5]
def bty:ICode:=(.seq (.seq bkh (.cond (.t 47) .skip (.exit 0))) (.seq (.block 1 (.seq bkg (.cond (.t 61) (.seq bkf .ret) .skip))) bke))
def bv1:=bzd bty.eq_1
def bkd:=rg [
by5 4 true] [4]
def c_ba:ICode:=(.seq r_ba_0 (.seq r_ba_1 (.cond (.t 42) (.seq r_ba_2 .ret) (.seq (.seq r_ba_3 (.block 0 (.loop bty))) (.seq bkd .ret)))))
def i_ba:IFunc:=⟨2,[.t 4],c_ba⟩
def a_ba:=zzy (zzz 4 [bkh,r_ba_3,r_ba_2,r_ba_1,r_ba_0]++[(8,[4]),(5,[2,3,5]),(7,[4]),(6,[2,3,5,61])])
def r_du_0:=rg [
oo 2 (.box 15 (.t 0)),oo 3 (.box 15 (.t 1)),by5 4 false] [2,3]
def r_du_1:=rg [
bza 5 0 2,bzi 6 5,bza 7 0 3,bzi 8 7,by8 9 .eql 6 8,bzk 10 9,og 11 10 true (.fieldA 1 (.t 2)),og 12 10 true (.load none (.t 11)),og 13 10 true (.fieldA 1 (.t 3)),og 14 10 true (.load none (.t 13)),og 15 10 true (.eqn false .bool (.t 12) (.t 14)),bzn 16 10 15,bzk 17 16,og 18 17 true (.fieldA 2 (.t 2)),og 19 17 true (.load none (.t 18)),og 20 17 true (.fieldA 2 (.t 3)),og 21 17 true (.load none (.t 20)),og 22 17 true (.eqn false .bool (.t 19) (.t 21)),bzn 23 17 22,bzk 24 23,og 25 24 true (.fieldA 3 (.t 2)),og 26 24 true (.load (some 5) (.t 25)),og 27 24 true (.fieldA 3 (.t 3)),og 28 24 true (.load (some 5) (.t 27)),og 29 24 true (.call false n_ba [(.t 26),(.t 28)]),bzn 30 24 29,bzk 31 30,og 32 31 true (.fieldA 8 (.t 2)),og 33 31 true (.load (some 5) (.t 32)),og 34 31 true (.fieldA 8 (.t 3)),og 35 31 true (.load (some 5) (.t 34)),og 36 31 true (.call false n_ba [(.t 33),(.t 35)]),bzn 37 31 36,bzk 38 37,og 39 38 true (.fieldA 13 (.t 2)),og 40 38 true (.load none (.t 39)),og 41 38 true (.fieldA 13 (.t 3)),og 42 38 true (.load none (.t 41)),og 43 38 true (.eqn false .bool (.t 40) (.t 42)),bzn 44 38 43,bzk 45 44,og 46 45 true (.fieldA 14 (.t 2)),og 47 45 true (.load none (.t 46)),og 48 45 true (.fieldA 14 (.t 3)),og 49 45 true (.load none (.t 48)),og 50 45 true (.bin .eql (.t 47) (.t 49)),bzn 51 45 50,bzq 4 51] [4]
def c_du:ICode:=(.seq r_du_0 (.seq r_du_1 .ret))
def i_du:IFunc:=⟨2,[.t 4],c_du⟩
def a_du:=zzy (zzz 1 [r_du_1,r_du_0])
def r_dx_0:=rg [
oo 1 (.box 15 (.t 0)),oo 2 (.alloc [(.int .i64 0),(.bool false),(.bool false),(.bool false),(.int .i64 0),(.int .i64 0),.nilS,.nilS,(.bool false),(.int .i64 0),(.int .i64 0),.nilS,.nilS,(.bool false),(.int .i64 0)])] [1,2]
def r_dx_1:=rg [
bza 3 0 1,bzi 4 3,bza 5 1 1,bzi 6 5,bza 7 2 1,bzi 8 7,bza 9 3 1,bzj 10 5 9,bza 11 8 1,bzj 12 5 11,bza 13 13 1,bzi 14 13,bza 15 14 1,bzi 16 15,oo 17 (.build [(.int .i64 0),(.bool false),(.bool false),(.bool false),(.int .i64 0),(.int .i64 0),.nilS,.nilS,(.bool false),(.int .i64 0),(.int .i64 0),.nilS,.nilS,(.bool false),(.int .i64 0)] [(0,1,(.t 4)),(1,1,(.t 6)),(2,1,(.t 8)),(3,5,(.t 10)),(8,5,(.t 12)),(13,1,(.t 14)),(14,1,(.t 16))]),bzp 15 2 17] [2]
def c_dx:ICode:=(.seq r_dx_0 (.seq r_dx_1 .ret))
def i_dx:IFunc:=⟨1,[.cell 2 (some 15)],c_dx⟩
def a_dx:=zzy (zzz 1 [r_dx_1,r_dx_0])
def r_bv_0:=rg [
oo 3 (.box 6 (.t 0)),oo 4 (.box 5 (.t 1)),oo 6 (.alloc [(.int .i64 0),.nilS,.nilS,(.int .i64 0),(.int .i64 0),(.int .i64 0)])] [2,3,4,6]
def r_bv_1:=rg [
bza 7 0 3,bzi 8 7] [2,3,4,6,8]
def r_bv_2:=rg [
by7 10 .eql 8 10,bzq 9 10] [2,3,4,6,8,9]
def r_bv_3:=rg [
bza 11 2 3,bzi 12 11,oo 13 (.idxA 6 (.t 12) (ci 0)),bzj 14 6 13,bzp 6 6 14] [6]
def r_bv_4:=rg [
by7 16 .eql 8 11,bzq 15 16] [2,3,4,6,8,15]
def r_bv_5:=rg [
bza 17 2 3,bzi 18 17,bzk 19 2,by7 20 .rem 19 2,bzf 21 6 18 20,bzj 22 6 21,bzp 6 6 22] [6]
def r_bv_6:=rg [
by7 24 .eql 8 13,bzq 23 24] [2,3,4,6,23]
def r_bv_7:=rg [
bza 25 2 3,bzi 26 25,bza 27 1 4,bzi 28 27,bzf 29 6 26 28,bzj 30 6 29,bzp 6 6 30] [6]
def r_bv_8:=rg [
bza 31 2 3,bzi 32 31,bzk 33 2,bzf 34 6 32 33,bzj 35 6 34,bzp 6 6 35] [6]
def c_bv:ICode:=(.seq r_bv_0 (.seq (.seq r_bv_1 (.block 0 (.seq r_bv_2 (.cond (.t 9) (.seq r_bv_3 .ret) (.seq r_bv_4 (.cond (.t 15) (.seq r_bv_5 .ret) (.seq r_bv_6 (.cond (.t 23) (.seq r_bv_7 .ret) .skip)))))))) (.seq r_bv_8 .ret)))
def i_bv:IFunc:=⟨3,[.cell 6 (some 6)],c_bv⟩
def a_bv:=zzy (zzz 8 [r_bv_8,r_bv_7,r_bv_6,r_bv_5,r_bv_4,r_bv_3,r_bv_2,r_bv_1,r_bv_0])
def r_bl_0:=rg [
by6 2 0] [0]
def r_bl_1:=rg [
by6 3 0] [0,3]
def r_bl_2:=rg [
by6 4 0] [0,3,4]
def bji:=rg [
bzk 5 4,bzk 6 0,bzh 7 false 6,by8 8 .lss 5 7] [0,3,4,8]
def bjh:=rg [
bzk 11 0,bzk 12 4,bzf 13 1 11 12,bzi 14 13,oo 15 (.bin .shr (.t 14) (.c (.int .u64 6))),oo 16 (.bin .neq (.t 15) (.c (.int .u8 2)))] [0,3,4,16]
def bjg:=rg [
bzk 17 3,by7 18 .add 17 1,bzq 3 18] [0,3,4]
def bjf:=rg [
bzk 9 4,by7 10 .add 9 1,bzq 4 10] [0,3,4]
def btv:ICode:=(.seq (.seq bji (.cond (.t 8) .skip (.exit 0))) (.seq (.block 1 (.seq bjh (.cond (.t 16) bjg .skip))) bjf))
def bv2:=bzd btv.eq_1
def r_bl_8:=rg [
bzk 19 3,bzq 2 19] [2]
def c_bl:ICode:=(.seq r_bl_0 (.seq r_bl_1 (.seq (.seq r_bl_2 (.block 0 (.loop btv))) (.seq r_bl_8 .ret))))
def i_bl:IFunc:=⟨1,[.t 2],c_bl⟩
def a_bl:=zzy (zzz 6 [bjf,.ret,.ret,bji,r_bl_2,r_bl_1,r_bl_0]++[(7,[2]),(4,[0,3,4]),(5,[0,3,4,16])])
def r_dt_0:=rg [
by5 2 false] [0]
def r_dt_1:=rg [
bzk 3 0,by7 4 .neq 3 10,bzk 5 4,bzc 6 5 true 0,og 7 5 true (.bin .neq (.t 6) (ci 11)),bzn 8 5 7,bzk 9 8,bzc 10 9 true 0,og 11 9 true (.bin .neq (.t 10) (ci 12)),bzn 12 9 11,bzk 13 12,bzc 14 13 true 0,og 15 13 true (.bin .neq (.t 14) (ci 13)),bzn 16 13 15,bzq 2 16] [2]
def c_dt:ICode:=(.seq r_dt_0 (.seq r_dt_1 .ret))
def i_dt:IFunc:=⟨1,[.t 2],c_dt⟩
def a_dt:=zzy (zzz 1 [r_dt_1,r_dt_0])
def r_dm_0:=rg [
by5 4 false] [0,1]
def r_dm_1:=rg [
bzk 5 0,oo 6 (.bin .geq (.t 5) (ci (-1099511627776))),bzk 7 6,bzc 8 7 true 0,og 9 7 true (.bin .leq (.t 8) (ci 1099511627776)),bzn 10 7 9,bzk 11 10,bzc 12 11 true 1,og 13 11 true (.bin .geq (.t 12) (ci 0)),bzn 14 11 13,bzk 15 14,bzc 16 15 true 1,og 17 15 true (.bin .lss (.t 16) (ci 1000000000)),bzn 18 15 17,bzq 4 18] [4]
def c_dm:ICode:=(.seq r_dm_0 (.seq r_dm_1 .ret))
def i_dm:IFunc:=⟨2,[.t 4],c_dm⟩
def a_dm:=zzy (zzz 1 [r_dm_1,r_dm_0])
def r_bt_0:=rg [
oo 2 (.asg (.c (.str [])))] [0]
def r_bt_1:=rg [
bzk 4 0,oo 5 (.bin .rem (.t 4) (.c (.int .u64 10))),oo 6 (.bin .add (.c (.int .u64 48)) (.t 5)),oo 7 (.cvInt .u8 (.t 6)),oo 8 (.lit false 1 1 (.int .u8 0) [(0,(.t 7))]),oo 9 (.b2s (.t 8)),bzq 3 9] [0,3]
def biz:=rg [
bzk 10 0,oo 11 (.bin .geq (.t 10) (.c (.int .u64 10)))] [0,3,11]
def biy:=rg [
bzk 12 0,oo 13 (.bin .quo (.t 12) (.c (.int .u64 10))),bzq 0 13] [0,3]
def bix:=rg [
bzk 14 0,oo 15 (.bin .rem (.t 14) (.c (.int .u64 10))),oo 16 (.bin .add (.c (.int .u64 48)) (.t 15)),oo 17 (.cvInt .u8 (.t 16)),oo 18 (.lit false 1 1 (.int .u8 0) [(0,(.t 17))]),oo 19 (.b2s (.t 18)),bzk 20 3,by8 21 .add 19 20,bzq 3 21] [0,3]
def btt:ICode:=(.seq (.seq biz (.cond (.t 11) .skip (.exit 0))) (.block 1 (.seq biy bix)))
def bv3:=bzd btt.eq_1
def biw:=rg [
bzk 22 3,bzq 2 22] [2]
def c_bt:ICode:=(.seq r_bt_0 (.seq r_bt_1 (.seq (.block 0 (.loop btt)) (.seq biw .ret))))
def i_bt:IFunc:=⟨1,[.t 2],c_bt⟩
def a_bt:=zzy (zzz 4 [bix,biy,biz,r_bt_1,r_bt_0]++[(5,[2])])
def r_cx_0:=rg [
oo 2 (.asg (.c (.int .u64 0)))] [0]
def r_cx_1:=rg [
bzk 3 0,by7 4 .lss 3 0] [0,4]
def r_cx_2:=rg [
bzk 5 0,by7 6 .add 5 1,oo 7 (.bin .sub (ci 0) (.t 6)),oo 8 (.cvInt .u64 (.t 7)),oo 9 (.bin .add (.t 8) (.c (.int .u64 1))),bzq 2 9] [2]
def r_cx_3:=rg [
bzk 10 0,oo 11 (.cvInt .u64 (.t 10)),bzq 2 11] [2]
def c_cx:ICode:=(.seq r_cx_0 (.seq r_cx_1 (.cond (.t 4) (.seq r_cx_2 .ret) (.seq r_cx_3 .ret))))
def i_cx:IFunc:=⟨1,[.t 2],c_cx⟩
def a_cx:=zzy (zzz 3 [r_cx_3,r_cx_2,r_cx_1,r_cx_0])
def r_db_0:=rg [
by6 2 0] [0]
def r_db_1:=rg [
bzk 3 0,by9 4 n_cx [(.t 3)],by9 5 n_bt [(.t 4)],bzh 6 true 5,bzq 2 6] [2]
def c_db:ICode:=(.seq r_db_0 (.seq r_db_1 .ret))
def i_db:IFunc:=⟨1,[.t 2],c_db⟩
def a_db:=zzy (zzz 1 [r_db_1,r_db_0])
def r_am_0:=rg [
oo 3 (.box 6 (.t 0)),by5 6 false] [1,2,3]
def r_am_1:=rg [
bzk 7 2,by7 8 .neq 7 0,bzk 9 8,og 10 9 true (.fieldA 0 (.t 3)),og 11 9 true (.load none (.t 10)),og 12 9 true (.bin .neq (.t 11) (ci 9)),bzn 13 9 12] [1,2,3,13]
def r_am_2:=rg [
by5 6 false] [6]
def r_am_3:=rg [
bza 14 0 3,bzi 15 14] [1,2,3,15]
def r_am_4:=rg [
by7 17 .eql 15 0,bzq 16 17] [1,2,3,15,16]
def r_am_5:=rg [
bzk 18 1,by7 19 .eql 18 0,bzk 20 19,bzc 21 20 false 1,og 22 20 false (.bin .eql (.t 21) (ci 1)),bzo 23 20 22,bzq 6 23] [6]
def r_am_6:=rg [
by7 25 .eql 15 1,bzq 24 25] [1,2,3,15,24]
def r_am_7:=rg [
bzk 26 1,oo 27 (.bin .geq (.t 26) (ci (-128))),bzk 28 27,bzc 29 28 true 1,og 30 28 true (.bin .leq (.t 29) (ci 127)),bzn 31 28 30,bzq 6 31] [6]
def r_am_8:=rg [
by7 33 .eql 15 2,bzq 32 33] [1,2,3,15,32]
def r_am_9:=rg [
bzk 34 1,oo 35 (.bin .geq (.t 34) (ci (-32768))),bzk 36 35,bzc 37 36 true 1,og 38 36 true (.bin .leq (.t 37) (ci 32767)),bzn 39 36 38,bzq 6 39] [6]
def bmu:=rg [
by7 41 .eql 15 3,bzq 40 41] [1,2,3,15,40]
def bmt:=rg [
by7 42 .eql 15 15,bzq 40 42] [1,2,3,15,40]
def bms:=rg [
bzk 43 1,oo 44 (.bin .geq (.t 43) (ci (-2147483648))),bzk 45 44,bzc 46 45 true 1,og 47 45 true (.bin .leq (.t 46) (ci 2147483647)),bzn 48 45 47,bzq 6 48] [6]
def bmr:=rg [
by7 50 .eql 15 4,bzq 49 50] [1,2,3,15,49]
def bmq:=rg [
by5 6 true] [6]
def bmp:=rg [
by7 52 .eql 15 14,bzq 51 52] [1,2,3,15,51]
@[go_sem] def adp:Ops:=[
bzk 53 1,by9 54 n_db [(.t 53)],bza 55 4 3,bzi 56 55,by8 57 .leq 54 56,bzq 6 57]
def adq:List (Nat×Nat):=[(0,2),(1,2),(0,3),(1,3)]
def bmo:ICode:= .region adp adq [6]
@[go_sem] theorem r_am_16_u:Gu X K s bmo adq adp [6]:=go_regionU' _ _ _ _
def bmn:=rg [
by7 59 .eql 15 9,bzq 58 59] [1,2,3,15,58]
def bmm:=rg [
bzk 60 1,bzk 61 2,by9 62 n_dm [(.t 60),(.t 61)],bzq 6 62] [6]
def bml:=rg [
by7 64 .eql 15 13,bzq 63 64] [1,3,63]
def bmk:=rg [
bzk 65 1,by7 66 .geq 65 0,bzk 67 66,bzc 68 67 true 1,og 69 67 true (.fieldA 2 (.t 3)),og 70 67 true (.load none (.t 69)),og 71 67 true (.len false (.t 70)),og 72 67 true (.bin .lss (.t 68) (.t 71)),bzn 73 67 72,bzq 6 73] [6]
def bmj:=rg [
bzk 74 1,by7 75 .eql 74 0,bzq 6 75] [6]
def c_am:ICode:=(.seq r_am_0 (.seq r_am_1 (.cond (.t 13) (.seq r_am_2 .ret) (.seq (.seq r_am_3 (.block 0 (.seq r_am_4 (.cond (.t 16) (.seq r_am_5 .ret) (.seq r_am_6 (.cond (.t 24) (.seq r_am_7 .ret) (.seq r_am_8 (.cond (.t 32) (.seq r_am_9 .ret) (.seq (.seq bmu (.cond (.t 40) .skip bmt)) (.cond (.t 40) (.seq bms .ret) (.seq bmr (.cond (.t 49) (.seq bmq .ret) (.seq bmp (.cond (.t 51) (.seq bmo .ret) (.seq bmn (.cond (.t 58) (.seq bmm .ret) (.seq bml (.cond (.t 63) (.seq bmk .ret) .skip)))))))))))))))))) (.seq bmj .ret)))))
def i_am:IFunc:=⟨3,[.t 6],c_am⟩
def a_am:=zzy (zzz 21 [bmj,bmk,bml,bmm,bmn,.ret,bmp,bmq,bmr,bms,bmt,bmu,r_am_9,r_am_8,r_am_7,r_am_6,r_am_5,r_am_4,r_am_3,r_am_2,r_am_1,r_am_0]++[(16,[6])])
def r_ah_0:=rg [
oo 2 (.box 6 (.t 0)),oo 3 (.box 5 (.t 1)),by6 4 0] [2,3]
def r_ah_1:=rg [
bza 8 0 3,bzi 9 8] [2,3,9]
def r_ah_2:=rg [
bza 10 1 3,bzi 11 10,by7 12 .neq 11 0,bzk 13 12,og 14 13 false (.fieldA 2 (.t 3)),og 15 13 false (.load none (.t 14)),og 16 13 false (.bin .neq (.t 15) (ci 0)),bzo 17 13 16,bzk 18 17,og 19 18 false (.fieldA 3 (.t 3)),og 20 18 false (.load none (.t 19)),og 21 18 false (.len false (.t 20)),og 22 18 false (.bin .gtr (.t 21) (ci 0)),bzo 23 18 22,bzk 24 23,og 25 24 false (.fieldA 4 (.t 3)),og 26 24 false (.load none (.t 25)),og 27 24 false (.len false (.t 26)),og 28 24 false (.bin .gtr (.t 27) (ci 0)),bzo 29 24 28] [29]
def r_ah_3:=rg [
by6 4 1] [4]
def r_ah_4:=rg [
by6 4 0] [4]
def r_ah_5:=rg [
bzj 30 6 2,bza 31 1 3,bzi 32 31,bza 33 2 3,bzi 34 33,by9 35 n_am [(.t 30),(.t 32),(.t 34)],bzm 36 35,bzk 37 36,og 38 37 false (.fieldA 3 (.t 3)),og 39 37 false (.load none (.t 38)),og 40 37 false (.len false (.t 39)),og 41 37 false (.bin .gtr (.t 40) (ci 0)),bzc 42 37 false 41,og 43 42 true (.fieldA 0 (.t 2)),og 44 42 true (.load none (.t 43)),og 45 42 true (.call false n_dh [(.t 44)]),og 46 42 true (.un .not (.t 45)),og 47 37 false (.pick (.t 42) (.t 46) (.c (.bool false))),bzo 48 37 47,bzk 49 48,og 50 49 false (.fieldA 4 (.t 3)),og 51 49 false (.load none (.t 50)),og 52 49 false (.len false (.t 51)),og 53 49 false (.bin .gtr (.t 52) (ci 0)),bzc 54 49 false 53,og 55 54 true (.fieldA 0 (.t 2)),og 56 54 true (.load none (.t 55)),og 57 54 true (.call false n_dt [(.t 56)]),og 58 49 false (.pick (.t 54) (.t 57) (.c (.bool false))),bzo 59 49 58] [2,3,59]
def r_ah_6:=rg [
by6 4 1] [4]
@[go_sem] def bbv:Ops:=[
bza 60 3 3,bzi 61 60,bzh 62 false 61,by7 63 .gtr 62 4096,bzk 64 63,og 65 64 false (.fieldA 0 (.t 2)),og 66 64 false (.load none (.t 65)),og 67 64 false (.bin .eql (.t 66) (ci 16)),bzc 68 64 false 67,og 69 68 false (.fieldA 0 (.t 2)),og 70 68 false (.load none (.t 69)),og 71 68 false (.bin .eql (.t 70) (ci 17)),og 72 64 false (.pick (.t 68) (.c (.bool true)) (.t 71)),bzc 73 64 false 72,og 74 73 true (.fieldA 3 (.t 3)),og 75 73 true (.load none (.t 74)),og 76 73 true (.call false n_bl [(.t 75)]),og 77 73 true (.fieldA 3 (.t 2)),og 78 73 true (.load none (.t 77)),og 79 73 true (.bin .gtr (.t 76) (.t 78)),og 80 64 false (.pick (.t 73) (.t 79) (.c (.bool false))),bzo 81 64 80]
def bbw:List (Nat×Nat):=[(14,17),(15,17),(16,17),(14,18),(15,18),(16,18)]
def r_ah_7:ICode:= .region bbv bbw [2,3,81]
@[go_sem] theorem r_ah_7_u:Gu X K s r_ah_7 bbw bbv [2,3,81]:=go_regionU' _ _ _ _
def r_ah_8:=rg [
by6 4 4] [4]
def r_ah_9:=rg [
bza 82 4 3,bzi 83 82,bzh 84 false 83,bzq 5 84] [2,3,5]
def bn8:=rg [
bza 85 0 2,bzi 86 85] [2,3,5,86]
def bn7:=rg [
by7 88 .eql 86 10,bzq 87 88] [2,3,5,86,87]
def bn6:=rg [
bzk 89 5,by7 90 .gtr 89 16384] [2,3,5,90]
def bn5:=rg [
by6 4 4] [4]
def bn4:=rg [
by7 92 .eql 86 11,bzq 91 92] [2,3,5,86,91]
def bn3:=rg [
bzk 93 5,by7 94 .rem 93 2,by7 95 .neq 94 0] [2,3,5,95]
def bn2:=rg [
by6 4 1] [4]
def bn1:=rg [
bzk 96 5,by7 97 .gtr 96 32768] [2,3,5,97]
def bn0:=rg [
by6 4 4] [4]
def bnz:=rg [
by7 99 .eql 86 12,bzq 98 99] [2,3,5,86,98]
def bny:=rg [
bzk 100 5,bza 101 2 2,bzi 102 101,bzh 103 false 102,by8 104 .neq 100 103] [2,3,5,104]
def bnx:=rg [
by6 4 1] [4]
def bnw:=rg [
by7 106 .eql 86 13,bzq 105 106] [2,3,5,105]
def bnv:=rg [
bzk 107 5,by7 108 .neq 107 1] [2,3,5,108]
def bnu:=rg [
by6 4 1] [4]
def bnt:=rg [
by6 6 0] [2,3,5,6]
def arl:=rg [
bzk 109 6,bzk 110 5,by8 111 .lss 109 110] [2,3,5,6,111]
def ark:=rg [
bza 114 0 2,bzi 115 114,by7 116 .eql 115 11,bzk 117 116,bzc 118 117 true 6,og 119 117 true (.bin .rem (.t 118) (ci 2)),og 120 117 true (.bin .eql (.t 119) (ci 0)),bzn 121 117 120,bzk 122 121,og 123 122 true (.fieldA 4 (.t 3)),og 124 122 true (.load none (.t 123)),bzc 125 122 true 6,og 126 122 true (.idxA 5 (.t 124) (.t 125)),og 127 122 true (.fieldA 0 (.t 126)),og 128 122 true (.load none (.t 127)),bzn 129 122 128] [2,3,5,6,129]
def arj:=rg [
by6 4 1] [4]
@[go_sem] def afo:Ops:=[
bzj 130 6 2,bzj 131 5 3,bzk 132 6,by9 133 n_bv [(.t 130),(.t 131),(.t 132)],bza 134 4 3,bzi 135 134,bzk 136 6,bzf 137 5 135 136,bzj 138 5 137,by9 139 n_ah [(.t 133),(.t 138)],bzq 7 139]
def afp:List (Nat×Nat):=[(0,1),(0,2),(1,2),(0,4),(1,4),(2,4),(3,4),(0,5),(1,5),(2,5),(3,5),(0,6),(1,6),(2,6),(3,6),(4,6),(5,6),(0,7),(1,7),(2,7),(3,7),(0,8),(1,8),(2,8),(3,8)]
def ari:ICode:= .region afo afp [2,3,5,6,7]
@[go_sem] theorem r_ah_29_u:Gu X K s ari afp afo [2,3,5,6,7]:=go_regionU' _ _ _ _
def arh:=rg [
bzk 140 7,by7 141 .neq 140 0] [2,3,5,6,7,141]
def arf:=rg [
bzk 142 7,bzq 4 142] [4]
def ard:=rg [
bzk 112 6,by7 113 .add 112 1,bzq 6 113] [2,3,5,6]
def av2:ICode:=(.seq (.seq arl (.cond (.t 111) .skip (.exit 1))) (.seq (.block 2 (.seq (.seq ark (.cond (.t 129) (.seq arj .ret) .skip)) (.seq ari (.seq arh (.cond (.t 141) (.seq arf .ret) .skip))))) ard))
def bv4:=bzd av2.eq_1
def arc:=rg [
by6 4 0] [4]
def c_ah:ICode:=(.seq r_ah_0 (.seq r_ah_1 (.cond (.t 9) (.seq (.seq r_ah_2 (.cond (.t 29) (.seq r_ah_3 .ret) .skip)) (.seq r_ah_4 .ret)) (.seq r_ah_5 (.cond (.t 59) (.seq r_ah_6 .ret) (.seq r_ah_7 (.cond (.t 81) (.seq r_ah_8 .ret) (.seq r_ah_9 (.seq (.seq bn8 (.block 0 (.seq bn7 (.cond (.t 87) (.seq bn6 (.cond (.t 90) (.seq bn5 .ret) .skip)) (.seq bn4 (.cond (.t 91) (.seq (.seq bn3 (.cond (.t 95) (.seq bn2 .ret) .skip)) (.seq bn1 (.cond (.t 97) (.seq bn0 .ret) .skip))) (.seq bnz (.cond (.t 98) (.seq bny (.cond (.t 104) (.seq bnx .ret) .skip)) (.seq bnw (.cond (.t 105) (.seq bnv (.cond (.t 108) (.seq bnu .ret) .skip)) .skip)))))))))) (.seq (.seq bnt (.block 1 (.loop av2))) (.seq arc .ret)))))))))))
def i_ah:IFunc:=⟨2,[.t 4],c_ah⟩
def a_ah:=zzy (zzz 26 [arl,bnt,bnu,bnv,bnw,bnx,bny,bnz,bn0,bn1,bn2,bn3,bn4,bn5,bn6,bn7,bn8,r_ah_9,r_ah_8,.ret,r_ah_6,r_ah_5,r_ah_4,r_ah_3,r_ah_2,r_ah_1,r_ah_0]++[(33,[4]),(27,[2,3,5,6]),(32,[4]),(31,[2,3,5,6,7,141]),(30,[2,3,5,6,7]),(29,[4]),(28,[2,3,5,6,129]),(7,[2,3,81])])
def r_c5_0:=rg [
by6 4 0,by5 5 false] [0,1]
def r_c5_1:=rg [
bzk 6 1,by7 7 .gtr 6 0,bzk 8 7,bzc 9 8 true 0,bzc 10 8 true 1,og 11 8 true (.bin .sub (ci 9223372036854775807) (.t 10)),og 12 8 true (.bin .gtr (.t 9) (.t 11)),bzn 13 8 12,bzk 14 13,bzc 15 14 false 1,og 16 14 false (.bin .lss (.t 15) (ci 0)),bzc 17 14 false 16,bzc 18 17 true 0,bzc 19 17 true 1,og 20 17 true (.bin .sub (ci (-9223372036854775808)) (.t 19)),og 21 17 true (.bin .lss (.t 18) (.t 20)),og 22 14 false (.pick (.t 17) (.t 21) (.c (.bool false))),bzo 23 14 22] [0,1,23]
def r_c5_2:=rg [
by6 4 0,by5 5 false] [4,5]
def r_c5_3:=rg [
bzk 24 0,bzk 25 1,by8 26 .add 24 25,bzq 4 26,by5 5 true] [4,5]
def c_c5:ICode:=(.seq r_c5_0 (.seq r_c5_1 (.cond (.t 23) (.seq r_c5_2 .ret) (.seq r_c5_3 .ret))))
def i_c5:IFunc:=⟨2,[.t 4,.t 5],c_c5⟩
def a_c5:=zzy (zzz 3 [r_c5_3,r_c5_2,r_c5_1,r_c5_0])
def r_c6_0:=rg [
oo 2 (.asg (.c (.int .u64 0)))] [0]
def r_c6_1:=rg [
bzk 3 0,by7 4 .lss 3 0] [0,4]
def r_c6_2:=rg [
bzk 5 0,by7 6 .add 5 1,oo 7 (.bin .sub (ci 0) (.t 6)),oo 8 (.cvInt .u64 (.t 7)),oo 9 (.bin .add (.t 8) (.c (.int .u64 1))),bzq 2 9] [2]
def r_c6_3:=rg [
bzk 10 0,oo 11 (.cvInt .u64 (.t 10)),bzq 2 11] [2]
def c_c6:ICode:=(.seq r_c6_0 (.seq r_c6_1 (.cond (.t 4) (.seq r_c6_2 .ret) (.seq r_c6_3 .ret))))
def i_c6:IFunc:=⟨1,[.t 2],c_c6⟩
def a_c6:=zzy (zzz 3 [r_c6_3,r_c6_2,r_c6_1,r_c6_0])
def r_bu_0:=rg [
by6 4 0,by5 5 false] [0,1]
def r_bu_1:=rg [
bzk 9 0,by9 10 n_c6 [(.t 9)],bzq 6 10] [0,1,6]
def r_bu_2:=rg [
bzk 11 1,by9 12 n_c6 [(.t 11)],bzq 7 12] [0,1,6,7]
def r_bu_3:=rg [
oo 8 (.asg (.c (.int .u64 9223372036854775807)))] [0,1,6,7,8]
def r_bu_4:=rg [
bzk 13 0,by7 14 .lss 13 0,bzk 15 1,by7 16 .lss 15 0,oo 17 (.eqn true .bool (.t 14) (.t 16))] [0,1,6,7,8,17]
def r_bu_5:=rg [
bzk 18 8,oo 19 (.bin .add (.t 18) (.c (.int .u64 1))),bzq 8 19] [0,1,6,7,8]
def r_bu_6:=rg [
bzk 20 6,oo 21 (.bin .neq (.t 20) (.c (.int .u64 0))),bzk 22 21,bzc 23 22 true 7,bzc 24 22 true 8,bzc 25 22 true 6,og 26 22 true (.bin .quo (.t 24) (.t 25)),og 27 22 true (.bin .gtr (.t 23) (.t 26)),bzn 28 22 27] [0,1,28]
def r_bu_7:=rg [
by6 4 0,by5 5 false] [4,5]
def r_bu_8:=rg [
bzk 29 0,bzk 30 1,by8 31 .mul 29 30,bzq 4 31,by5 5 true] [4,5]
def c_bu:ICode:=(.seq r_bu_0 (.seq r_bu_1 (.seq r_bu_2 (.seq r_bu_3 (.seq (.seq r_bu_4 (.cond (.t 17) r_bu_5 .skip)) (.seq r_bu_6 (.cond (.t 28) (.seq r_bu_7 .ret) (.seq r_bu_8 .ret))))))))
def i_bu:IFunc:=⟨2,[.t 4,.t 5],c_bu⟩
def a_bu:=zzy (zzz 8 [r_bu_8,r_bu_7,r_bu_6,r_bu_5,r_bu_4,r_bu_3,r_bu_2,r_bu_1,r_bu_0])
def r_ac_0:=rg [
by6 4 0,by6 5 0] [0,1]
def r_ac_1:=rg [
by5 6 false] [0,1,6]
def r_ac_2:=rg [
bzk 18 0,bzh 19 true 18,by7 20 .gtr 19 0,bzk 21 20,bzc 22 21 true 0,og 23 21 true (.idxS (.t 22) (ci 0)),og 24 21 true (.bin .eql (.t 23) (.c (.int .u8 45))),bzn 25 21 24] [0,1,6,25]
def r_ac_3:=rg [
by5 6 true] [0,1,6]
def r_ac_4:=rg [
bzk 26 0,oo 27 (.sliceS (.t 26) (some (ci 1)) none),bzq 0 27] [0,1,6]
def bqo:=rg [
by6 7 0] [0,1,6,7]
def bqn:=rg [
by6 8 0] [0,1,6,7,8]
def bqm:=rg [
by5 9 false] [0,1,6,7,8,9]
def bql:=rg [
by6 10 0] [0,1,6,7,8,9,10]
def bqk:=rg [
bzk 28 10,bzk 29 0,bzh 30 true 29,by8 31 .lss 28 30] [0,1,6,7,8,9,10,31]
def asc:=rg [
bzk 37 0,bzk 38 10,oo 39 (.idxS (.t 37) (.t 38)),oo 40 (.bin .eql (.t 39) (.c (.int .u8 46))),bzk 41 40,bzc 42 41 true 9,og 43 41 true (.un .not (.t 42)),bzn 44 41 43,bzq 36 44] [0,1,6,7,8,9,10,36]
def asb:=rg [
by5 9 true] [0,1,6,7,8,9,10]
def asa:=rg [
bzk 46 0,bzk 47 10,oo 48 (.idxS (.t 46) (.t 47)),oo 49 (.bin .lss (.t 48) (.c (.int .u8 48))),bzk 50 49,bzc 51 50 false 0,bzc 52 50 false 10,og 53 50 false (.idxS (.t 51) (.t 52)),og 54 50 false (.bin .gtr (.t 53) (.c (.int .u8 57))),bzo 55 50 54,bzq 45 55] [0,1,6,7,8,9,10,45]
def ar9:=rg [
by6 4 0,by6 5 2] [4,5]
def ar8:=rg [
bzk 57 9,bzq 56 57] [0,1,6,7,8,9,10,56]
def ar7:=rg [
bzk 58 8,by7 59 .add 58 1,bzq 8 59] [0,1,6,7,8,9,10]
def ar6:=rg [
bzk 34 7,by7 35 .add 34 1,bzq 7 35] [0,1,6,7,8,9,10]
def ar5:=rg [
bzk 32 10,by7 33 .add 32 1,bzq 10 33] [0,1,6,7,8,9,10]
def x7:ICode:=(.seq (.seq bqk (.cond (.t 31) .skip (.exit 0))) (.seq (.block 1 (.block 2 (.seq asc (.cond (.t 36) asb (.seq asa (.cond (.t 45) (.seq ar9 .ret) (.seq ar8 (.cond (.t 56) ar7 ar6)))))))) ar5))
def bv5:=bzd x7.eq_1
def ar4:=rg [
bzk 60 7,by7 61 .eql 60 0,bzk 62 61,bzc 63 62 false 9,bzc 64 62 false 63,bzc 65 64 true 8,og 66 64 true (.bin .eql (.t 65) (ci 0)),og 67 62 false (.pick (.t 64) (.t 66) (.c (.bool false))),bzo 68 62 67] [0,1,6,8,68]
def ar3:=rg [
by6 4 0,by6 5 2] [4,5]
def xd:=rg [
bzk 69 8,bzk 70 1,by8 71 .gtr 69 70] [0,1,6,8,71]
def xc:=rg [
by6 4 0,by6 5 4] [4,5]
def xb:=rg [
by6 11 0] [0,1,6,8,11]
def xa:=rg [
by6 12 0] [0,1,6,8,11,12]
def ar2:=rg [
bzk 72 12,bzk 73 0,bzh 74 true 73,bzk 75 1,by8 76 .add 74 75,bzk 77 8,by8 78 .sub 76 77,by8 79 .lss 72 78] [0,1,6,8,11,12,79]
def ar1:=rg [
by6 13 0] [0,1,6,8,11,12,13]
def ar0:=rg [
bzk 82 12,bzk 83 0,bzh 84 true 83,by8 85 .lss 82 84] [0,1,6,8,11,12,13,85]
def arz:=rg [
bzk 86 0,bzk 87 12,oo 88 (.idxS (.t 86) (.t 87)),oo 89 (.bin .eql (.t 88) (.c (.int .u8 46)))] [0,1,6,8,11,12,89]
def ary:=rg [
bzk 90 0,bzk 91 12,oo 92 (.idxS (.t 90) (.t 91)),oo 93 (.bin .sub (.t 92) (.c (.int .u8 48))),oo 94 (.cvInt .i64 (.t 93)),bzq 13 94] [0,1,6,8,11,12,13]
def w9:=rg [
bzk 96 11,by9 97 n_bu [(.t 96),(ci 10)],bzk 95 97,bzr 98 95 0,bzr 99 95 1,bzq 14 98,bzq 15 99] [0,1,6,8,12,13,14,15]
def w8:=rg [
bzk 100 6] [0,1,6,8,12,13,14,15,100]
def w7:=rg [
bzk 101 13,oo 102 (.bin .sub (ci 0) (.t 101)),bzq 13 102] [0,1,6,8,12,13,14,15]
def w6:=rg [
bzk 104 14,bzk 105 13,by9 106 n_c5 [(.t 104),(.t 105)],bzk 103 106,bzr 107 103 0,bzr 108 103 1,bzq 16 107,bzq 17 108] [0,1,6,8,12,15,16,17]
def wz:=rg [
bzk 109 15,bzm 110 109,bzk 111 110,bzc 112 111 false 17,og 113 111 false (.un .not (.t 112)),bzo 114 111 113] [0,1,6,8,12,16,114]
def wy:=rg [
by6 4 0,by6 5 4] [4,5]
def wx:=rg [
bzk 115 16,bzq 11 115] [0,1,6,8,11,12]
def ww:=rg [
bzk 80 12,by7 81 .add 80 1,bzq 12 81] [0,1,6,8,11,12]
def qc:ICode:=(.seq (.seq ar2 (.cond (.t 79) .skip (.exit 3))) (.seq (.block 4 (.seq ar1 (.seq (.seq ar0 (.cond (.t 85) (.seq (.seq arz (.cond (.t 89) (.exit 4) .skip)) ary) .skip)) (.seq w9 (.seq (.seq w8 (.cond (.t 100) w7 .skip)) (.seq w6 (.seq (.seq wz (.cond (.t 114) (.seq wy .ret) .skip)) wx))))))) ww))
def bv6:=bzd qc.eq_1
def po:=rg [
bzk 116 11,bzq 4 116,by6 5 0] [4,5]
def c_ac:ICode:=(.seq r_ac_0 (.seq r_ac_1 (.seq (.seq r_ac_2 (.cond (.t 25) (.seq r_ac_3 r_ac_4) .skip)) (.seq bqo (.seq bqn (.seq bqm (.seq (.seq bql (.block 0 (.loop x7))) (.seq ar4 (.cond (.t 68) (.seq ar3 .ret) (.seq xd (.cond (.t 71) (.seq xc .ret) (.seq xb (.seq (.seq xa (.block 3 (.loop qc))) (.seq po .ret))))))))))))))
def i_ac:IFunc:=⟨2,[.t 4,.t 5],c_ac⟩
def a_ac:=zzy (zzz 36 [wx,wy,wz,w6,w7,w8,w9,ary,arz,ar0,ar1,.ret,.ret,.ret,.ret,.ret,.ret,.ret,.ret,ar5,.ret,.ret,.ret,.ret,.ret,asb,.ret,bqk,bql,bqm,bqn,bqo,r_ac_4,r_ac_3,r_ac_2,r_ac_1,r_ac_0]++[(37,[4,5]),(25,[0,1,6,8,11,12]),(24,[0,1,6,8,11,12,79]),(23,[0,1,6,8,11,12]),(22,[0,1,6,8,11]),(21,[4,5]),(20,[0,1,6,8,71]),(19,[4,5]),(18,[0,1,6,8,68]),(10,[0,1,6,7,8,9,10]),(13,[0,1,6,7,8,9,10]),(15,[4,5]),(16,[0,1,6,7,8,9,10,56]),(14,[0,1,6,7,8,9,10,45]),(12,[0,1,6,7,8,9,10,36])])
def r_ao_0:=rg [
oo 4 (.asg (.c .nilS)),by6 5 0] [0,1]
def r_ao_1:=rg [
oo 6 (.asg (.c .nilS))] [0,1,6]
def r_ao_2:=rg [
by6 7 0] [0,1,6,7]
def bmi:=rg [
bzk 12 7,bzk 13 0,bzh 14 false 13,by8 15 .lss 12 14] [0,1,6,7,15]
def bmh:=rg [
bzk 18 0,bzk 19 7,bzf 20 5 18 19,bza 21 0 20,bzi 22 21,bzk 23 1,by8 24 .neq 22 23] [0,1,6,7,24]
def bmg:=rg [
bzk 25 0,bzk 26 7,bzf 27 5 25 26,bza 28 1 27,bzi 29 28,by7 30 .eql 29 0] [0,1,6,7,30]
def bmf:=rg [
bzk 31 6,bzk 32 0,bzk 33 7,bzf 34 5 32 33,bza 35 2 34,bzi 36 35,oo 37 (.lit false 1 1 (.int .u64 0) [(0,(.t 36))]),oo 38 (.append 1 8 (.t 31) (.t 37)),bzq 6 38] [0,1,6,7]
def bme:=rg [
by6 8 0] [0,1,6,7,8]
def bmd:=rg [
bzk 39 0,bzk 40 7,bzf 41 5 39 40,bza 42 1 41,bzi 43 42,by7 44 .eql 43 2,bzk 45 44,bzc 46 45 true 8,bzc 47 45 true 0,bzc 48 45 true 7,og 49 45 true (.idxA 5 (.t 47) (.t 48)),og 50 45 true (.fieldA 3 (.t 49)),og 51 45 true (.load none (.t 50)),og 52 45 true (.len false (.t 51)),og 53 45 true (.bin .lss (.t 46) (.t 52)),bzn 54 45 53] [0,1,6,7,8,54]
def bmc:=rg [
bzk 56 0,bzk 57 7,bzf 58 5 56 57,bza 59 3 58,bzi 60 59,bzk 61 8,by9 62 n_az [(.t 60),(.t 61)],bzk 55 62,bzr 63 55 0,bzr 64 55 1,bzr 65 55 2,bzq 9 63,bzq 10 64,bzq 11 65] [0,1,6,7,8,9,10,11]
def aqo:=rg [
bzk 66 11,by7 67 .neq 66 0] [0,1,6,7,8,9,10,11,67]
def aqn:=rg [
bzk 68 11,oo 4 (.asg (.c .nilS)),bzq 5 68] [4,5]
def aqm:=rg [
bzk 69 6,bzk 70 9,oo 71 (.lit false 1 1 (.int .u64 0) [(0,(.t 70))]),oo 72 (.append 1 8 (.t 69) (.t 71)),bzq 6 72] [0,1,6,7,8,10]
def aql:=rg [
bzk 73 8,bzk 74 10,by8 75 .add 73 74,bzq 8 75] [0,1,6,7,8]
def xy:ICode:=(.seq (.seq bmd (.cond (.t 54) .skip (.exit 2))) (.block 3 (.seq bmc (.seq (.seq aqo (.cond (.t 67) (.seq aqn .ret) .skip)) (.seq aqm aql)))))
def bv7:=bzd xy.eq_1
def wu:=rg [
bzk 16 7,by7 17 .add 16 1,bzq 7 17] [0,1,6,7]
def tf:ICode:=(.seq (.seq bmi (.cond (.t 15) .skip (.exit 0))) (.seq (.block 1 (.seq (.seq bmh (.cond (.t 24) (.exit 1) .skip)) (.seq (.seq bmg (.cond (.t 30) bmf .skip)) (.seq bme (.block 2 (.loop xy)))))) wu))
def bv8:=bzd tf.eq_1
def ws:=rg [
bzk 76 6,bzq 4 76,by6 5 0] [4,5]
def c_ao:ICode:=(.seq r_ao_0 (.seq r_ao_1 (.seq (.seq r_ao_2 (.block 0 (.loop tf))) (.seq ws .ret))))
def i_ao:IFunc:=⟨2,[.t 4,.t 5],c_ao⟩
def a_ao:Advice:=⟨[38,72],zzz 3 [bmi,r_ao_2,r_ao_1,r_ao_0]++[(15,[4,5]),(4,[0,1,6,7]),(14,[0,1,6,7,8]),(13,[0,1,6,7,8,10]),(12,[4,5]),(11,[0,1,6,7,8,9,10,11,67]),(10,[0,1,6,7,8,9,10,11]),(9,[0,1,6,7,8,54]),(8,[0,1,6,7,8]),(7,[0,1,6,7]),(6,[0,1,6,7,30]),(5,[0,1,6,7,24])],[],[],[],[]⟩
def r_cw_0:=rg [
by6 2 0] [0]
def r_cw_1:=rg [
bzk 4 0,oo 5 (.bin .shr (.t 4) (.c (.int .u64 1))),oo 6 (.cvInt .i64 (.t 5)),bzq 3 6] [0,3]
def r_cw_2:=rg [
bzk 7 0,oo 8 (.bin .and (.t 7) (.c (.int .u64 1))),oo 9 (.bin .eql (.t 8) (.c (.int .u64 1)))] [3,9]
def r_cw_3:=rg [
bzk 10 3,oo 11 (.bin .sub (ci 0) (.t 10)),by7 12 .sub 11 1,bzq 2 12] [2]
def r_cw_4:=rg [
bzk 13 3,bzq 2 13] [2]
def c_cw:ICode:=(.seq r_cw_0 (.seq r_cw_1 (.seq r_cw_2 (.cond (.t 9) (.seq r_cw_3 .ret) (.seq r_cw_4 .ret)))))
def i_cw:IFunc:=⟨1,[.t 2],c_cw⟩
def a_cw:=zzy (zzz 4 [r_cw_4,r_cw_3,r_cw_2,r_cw_1,r_cw_0])
def r_df_0:=rg [
by6 4 0,by5 5 false] [0,1]
def r_df_1:=rg [
bzk 9 0,bzk 10 1,by9 11 n_bg [(.t 9),(.t 10)],bzk 8 11,bzr 12 8 0,bzr 13 8 1,bzq 6 12,bzq 7 13] [6,7]
def r_df_2:=rg [
bzk 14 6,by9 15 n_cw [(.t 14)],bzk 16 7,bzq 4 15,bzq 5 16] [4,5]
def c_df:ICode:=(.seq r_df_0 (.seq r_df_1 (.seq r_df_2 .ret)))
def i_df:IFunc:=⟨2,[.t 4,.t 5],c_df⟩
def a_df:=zzy (zzz 2 [r_df_2,r_df_1,r_df_0])
def r_cu_0:=rg [
by6 2 0,by6 3 0,by5 4 false,by5 5 false] [0]
def r_cu_1:=rg [
bzk 11 0,by9 12 n_df [(.t 11),(ci 1)],bzk 10 12,bzr 13 10 0,bzr 14 10 1,bzq 6 13,bzq 7 14] [0,6,7]
def r_cu_2:=rg [
bzk 16 0,by9 17 n_df [(.t 16),(ci 2)],bzk 15 17,bzr 18 15 0,bzr 19 15 1,bzq 8 18,bzq 9 19] [6,7,8,9]
def r_cu_3:=rg [
bzk 20 6,bzk 21 8,bzk 22 7,bzk 23 7,bzk 24 9,oo 25 (.eqn false .bool (.t 23) (.t 24)),bzq 2 20,bzq 3 21,bzq 4 22,bzq 5 25] [2,3,4,5]
def c_cu:ICode:=(.seq r_cu_0 (.seq r_cu_1 (.seq r_cu_2 (.seq r_cu_3 .ret))))
def i_cu:IFunc:=⟨1,[.t 2,.t 3,.t 4,.t 5],c_cu⟩
def a_cu:=zzy (zzz 3 [r_cu_3,r_cu_2,r_cu_1,r_cu_0])
def r_bz_0:=rg [
oo 4 (.asg (.c .nilS)),by5 5 false,by6 6 0] [0,1]
def r_bz_1:=rg [
bzk 12 0,bzk 13 1,by9 14 n_bb [(.t 12),(.t 13)],bzk 11 14,bzr 15 11 0,bzr 16 11 1,bzq 7 15,bzq 8 16] [7,8]
def r_bz_2:=rg [
bzk 17 8,bzm 18 17] [7,18]
def r_bz_3:=rg [
oo 4 (.asg (.c .nilS)),by5 5 false,by6 6 0] [4,5,6]
def r_bz_4:=rg [
bzk 20 7,by9 21 n_aw [(.t 20)],bzk 19 21,bzr 22 19 0,bzr 23 19 1,bzq 9 22,bzq 10 23] [9,10]
def r_bz_5:=rg [
bzk 24 9,bzk 25 10,bzq 4 24,by5 5 true,bzq 6 25] [4,5,6]
def c_bz:ICode:=(.seq r_bz_0 (.seq r_bz_1 (.seq r_bz_2 (.cond (.t 18) (.seq r_bz_3 .ret) (.seq r_bz_4 (.seq r_bz_5 .ret))))))
def i_bz:IFunc:=⟨2,[.t 4,.t 5,.t 6],c_bz⟩
def a_bz:=zzy (zzz 5 [r_bz_5,r_bz_4,r_bz_3,r_bz_2,r_bz_1,r_bz_0])
def r_dh_0:=rg [
by5 2 false] [0]
def r_dh_1:=rg [
bzk 3 0,by7 4 .eql 3 7,bzk 5 4,bzc 6 5 false 0,og 7 5 false (.bin .eql (.t 6) (ci 16)),bzo 8 5 7,bzk 9 8,bzc 10 9 false 0,og 11 9 false (.bin .eql (.t 10) (ci 17)),bzo 12 9 11,bzk 13 12,bzc 14 13 false 0,og 15 13 false (.bin .eql (.t 14) (ci 8)),bzo 16 13 15,bzq 2 16] [2]
def c_dh:ICode:=(.seq r_dh_0 (.seq r_dh_1 .ret))
def i_dh:IFunc:=⟨1,[.t 2],c_dh⟩
def a_dh:=zzy (zzz 1 [r_dh_1,r_dh_0])
def r_di_0:=rg [
by5 2 false] [0]
def r_di_1:=rg [
bzk 3 0,by9 4 n_dh [(.t 3)],bzk 5 4,bzc 6 5 true 0,og 7 5 true (.bin .neq (.t 6) (ci 8)),bzn 8 5 7,bzq 2 8] [2]
def c_di:ICode:=(.seq r_di_0 (.seq r_di_1 .ret))
def i_di:IFunc:=⟨1,[.t 2],c_di⟩
def a_di:=zzy (zzz 1 [r_di_1,r_di_0])
def r_dq_0:=rg [
by5 2 false] [0]
def r_dq_1:=rg [
bzk 3 0,by7 4 .geq 3 1,bzk 5 4,bzc 6 5 true 0,og 7 5 true (.bin .leq (.t 6) (ci 4)),bzn 8 5 7,bzq 2 8] [2]
def c_dq:ICode:=(.seq r_dq_0 (.seq r_dq_1 .ret))
def i_dq:IFunc:=⟨1,[.t 2],c_dq⟩
def a_dq:=zzy (zzz 1 [r_dq_1,r_dq_0])
def r_bg_0:=rg [
oo 4 (.asg (.c (.int .u64 0))),by5 5 false] [0,1]
def r_bg_1:=rg [
oo 6 (.asg (.c (.int .u64 0)))] [0,1,6]
def r_bg_2:=rg [
by5 7 false] [0,1,6,7]
def r_bg_3:=rg [
by6 8 0] [0,1,6,7,8]
def bjv:=rg [
bzk 9 8,bzk 10 0,bzh 11 false 10,by8 12 .lss 9 11] [0,1,6,7,8,12]
def bju:=rg [
bzk 15 0,bzk 16 8,bzf 17 5 15 16,bza 18 0 17,bzi 19 18,bzk 20 1,by8 21 .eql 19 20,bzk 22 21,bzc 23 22 true 0,bzc 24 22 true 8,og 25 22 true (.idxA 5 (.t 23) (.t 24)),og 26 22 true (.fieldA 1 (.t 25)),og 27 22 true (.load none (.t 26)),og 28 22 true (.bin .eql (.t 27) (ci 0)),bzn 29 22 28] [0,1,6,7,8,29]
def bjt:=rg [
bzk 30 0,bzk 31 8,bzf 32 5 30 31,bza 33 2 32,bzi 34 33,bzq 6 34] [0,1,6,8]
def bjs:=rg [
by5 7 true] [0,1,6,7,8]
def bjr:=rg [
bzk 13 8,by7 14 .add 13 1,bzq 8 14] [0,1,6,7,8]
def btw:ICode:=(.seq (.seq bjv (.cond (.t 12) .skip (.exit 0))) (.seq (.block 1 (.seq bju (.cond (.t 29) (.seq bjt bjs) .skip))) bjr))
def bv9:=bzd btw.eq_1
def ao4:=rg [
bzk 35 6,bzk 36 7,bzq 4 35,bzq 5 36] [4,5]
def c_bg:ICode:=(.seq r_bg_0 (.seq r_bg_1 (.seq r_bg_2 (.seq (.seq r_bg_3 (.block 0 (.loop btw))) (.seq ao4 .ret)))))
def i_bg:IFunc:=⟨2,[.t 4,.t 5],c_bg⟩
def a_bg:=zzy (zzz 8 [bjr,.ret,.ret,.ret,bjv,r_bg_3,r_bg_2,r_bg_1,r_bg_0]++[(9,[4,5]),(5,[0,1,6,7,8]),(7,[0,1,6,8]),(6,[0,1,6,7,8,29])])
def bre:=rg [
oo 2 (.box 6 (.t 0)),oo 4 (.alloc [(.int .i64 0),(.bool false),(.bool false),(.bool false),(.int .i64 0),(.int .i64 0),.nilS,.nilS,(.bool false),(.int .i64 0),(.int .i64 0),.nilS,.nilS,(.bool false),(.int .i64 0)]),by6 5 0] [1,2,4]
def brd:=rg [
oo 42 (.build [(.int .i64 0),(.bool false),(.bool false),(.bool false),(.int .i64 0),(.int .i64 0),.nilS,.nilS,(.bool false),(.int .i64 0),(.int .i64 0),.nilS,.nilS,(.bool false),(.int .i64 0)] []),oo 6 (.alloc [(.int .i64 0),(.bool false),(.bool false),(.bool false),(.int .i64 0),(.int .i64 0),.nilS,.nilS,(.bool false),(.int .i64 0),(.int .i64 0),.nilS,.nilS,(.bool false),(.int .i64 0)]),bzp 15 6 42] [1,2,4,6]
def brc:=rg [
bzk 44 1,by9 45 n_aw [(.t 44)],bzk 43 45,bzr 46 43 0,bzr 47 43 1,bzq 7 46,bzq 8 47] [2,4,6,7,8]
def brb:=rg [
bzk 48 8,by7 49 .neq 48 0] [2,4,6,7,8,49]
def bra:=rg [
bzj 50 15 6,bzk 51 8,bzp 15 4 50,bzq 5 51] [4,5]
def bq9:=rg [
bzk 53 7,by9 54 n_bg [(.t 53),(ci 1)],bzk 52 54,bzr 55 52 0,bzr 56 52 1,bzq 9 55,bzq 10 56] [2,4,6,7,9]
def bq8:=rg [
bzk 57 9,oo 58 (.bin .gtr (.t 57) (.c (.int .u64 262144)))] [2,4,6,7,9,58]
def bq7:=rg [
bzj 59 15 6,bzp 15 4 59,by6 5 2] [4,5]
def bq6:=rg [
bzk 61 7,by9 62 n_bg [(.t 61),(ci 10)],bzk 60 62,bzr 63 60 0,bzr 64 60 1,bzq 11 63,bzq 12 64] [2,4,6,7,9,11]
def bq5:=rg [
bzk 65 9,oo 66 (.cvInt .i64 (.t 65)),bzk 67 11,oo 68 (.bin .neq (.t 67) (.c (.int .u64 0))),oo 69 (.build [(.int .i64 0),(.bool false),(.bool false),(.bool false),(.int .i64 0),(.int .i64 0),.nilS,.nilS,(.bool false),(.int .i64 0),(.int .i64 0),.nilS,.nilS,(.bool false),(.int .i64 0)] [(0,1,(.t 66)),(1,1,(.t 68))]),oo 13 (.alloc [(.int .i64 0),(.bool false),(.bool false),(.bool false),(.int .i64 0),(.int .i64 0),.nilS,.nilS,(.bool false),(.int .i64 0),(.int .i64 0),.nilS,.nilS,(.bool false),(.int .i64 0)]),bzp 15 13 69] [2,4,6,7,13]
def auu:=rg [
by6 14 0] [2,4,6,7,13,14]
def aut:=rg [
bza 71 0 2,bzi 72 71,by9 73 n_dq [(.t 72)],bzq 70 73] [2,4,6,7,13,14,70]
def aus:=rg [
by6 14 2] [2,4,6,7,13,14]
def aur:=rg [
bza 75 0 2,bzi 76 75,by9 77 n_di [(.t 76)],bzq 74 77] [2,4,6,7,13,14,74]
def auq:=rg [
by6 14 4] [2,4,6,7,13,14]
def aup:=rg [
bza 79 0 2,bzi 80 79,by7 81 .eql 80 0,bzq 78 81] [2,4,6,7,13,14,78]
def auo:=rg [
by6 14 5] [2,4,6,7,13,14]
def aun:=rg [
bza 83 0 2,bzi 84 83,by7 85 .eql 84 14,bzq 82 85] [2,4,6,7,13,14,82]
def aum:=rg [
by6 14 6] [2,4,6,7,13,14]
def aul:=rg [
bza 87 0 2,bzi 88 87,by7 89 .eql 88 15,bzq 86 89] [2,4,6,7,13,14,86]
def auk:=rg [
by6 14 7] [2,4,6,7,13,14]
def auj:=rg [
bza 91 0 2,bzi 92 91,by7 93 .eql 92 8,bzq 90 93] [2,4,6,7,13,14,90]
def aui:=rg [
by6 14 8] [2,4,6,7,13,14]
def auh:=rg [
bza 95 0 2,bzi 96 95,by7 97 .eql 96 9,bzq 94 97] [2,4,6,7,13,14,94]
def aug:=rg [
by6 14 9] [2,4,6,7,13,14]
def auf:=rg [
bzk 98 14,by7 99 .eql 98 0] [2,4,6,7,13,14,99]
def aue:=rg [
bzj 100 15 13,bzp 15 4 100,by6 5 0] [4,5]
def aud:=rg [
bzk 102 7,bzk 103 14,by9 104 n_bz [(.t 102),(.t 103)],bzk 101 104,bzr 105 101 0,bzr 106 101 1,bzr 107 101 2,bzq 15 105,bzq 16 106,bzq 17 107] [2,4,6,13,14,15,16,17]
def auc:=rg [
bzk 108 17,by7 109 .neq 108 0] [2,4,6,13,14,15,16,17,109]
def aub:=rg [
bzj 110 15 6,bzk 111 17,bzp 15 4 110,bzq 5 111] [4,5]
def aua:=rg [
bzk 112 16,bzm 113 112] [2,4,6,13,14,15,113]
def at9:=rg [
bzj 114 15 13,bzp 15 4 114,by6 5 0] [4,5]
def at8:=rg [
by5 18 true] [2,4,6,13,14,15,18]
def at7:=rg [
bzk 115 14] [2,4,6,13,14,15,18,115]
def at6:=rg [
by7 117 .eql 115 2,bzq 116 117] [2,4,6,13,14,15,18,115,116]
def at5:=rg [
by7 118 .eql 115 7,bzq 116 118] [2,4,6,13,14,15,18,115,116]
def at4:=rg [
bzk 120 15,by9 121 n_cu [(.t 120)],bzk 119 121,bzr 122 119 0,bzr 123 119 1,bzr 124 119 2,bzr 125 119 3,bza 126 3 13,bza 127 1 126,bzp 1 127 122,bza 128 8 13,bza 129 1 128,bzp 1 129 123,bza 130 2 13,bzp 1 130 124,bzq 18 125] [2,4,6,13,14,15,18]
def at3:=rg [
bzk 131 14,by7 132 .eql 131 2] [2,4,6,13,15,18,132]
def at2:=rg [
bzk 134 15,by9 135 n_df [(.t 134),(ci 3)],bzk 133 135,bzr 136 133 0,bzr 137 133 1,bza 138 14 13,bzp 1 138 136,bza 139 13 13,bzp 1 139 137] [2,4,6,13,18]
def at1:=rg [
by7 141 .eql 115 4,bzq 140 141] [2,4,6,13,15,18,115,140]
def at0:=rg [
bzk 143 15,by9 144 n_bb [(.t 143),(ci 1)],bzk 142 144,bzr 145 142 0,bzr 146 142 1,bzq 19 145,bzq 20 146] [2,4,6,13,15,19,20]
def atz:=rg [
bzk 148 15,by9 149 n_bb [(.t 148),(ci 2)],bzk 147 149,bzr 150 147 0,bzr 151 147 1,bzq 21 150,bzq 22 151] [2,4,6,13,15,19,20,21,22]
def aty:=rg [
bzk 152 19,bza 153 3 13,bza 154 3 153,bzp 1 154 152] [2,4,6,13,15,20,21,22]
def atx:=rg [
bzk 155 21,bza 156 8 13,bza 157 3 156,bzp 1 157 155] [2,4,6,13,15,20,22]
def atw:=rg [
bzk 158 20,bza 159 2 13,bzp 1 159 158] [2,4,6,13,15,20,22]
def atv:=rg [
bzk 160 20,bzk 161 22,oo 162 (.eqn false .bool (.t 160) (.t 161)),bzq 18 162] [2,4,6,13,15,18]
def atu:=rg [
bzk 164 15,by9 165 n_df [(.t 164),(ci 3)],bzk 163 165,bzr 166 163 0,bzr 167 163 1,bza 168 14 13,bzp 1 168 166,bza 169 13 13,bzp 1 169 167] [2,4,6,13,18]
def att:=rg [
by7 171 .eql 115 5,bzq 170 171] [2,4,6,13,15,18,115,170]
def ats:=rg [
bzk 173 15,by9 174 n_ao [(.t 173),(ci 1)],bzk 172 174,bzr 175 172 0,bzr 176 172 1,bzq 23 175,bzq 24 176] [2,4,6,13,18,23,24]
def atr:=rg [
bzk 177 24,by7 178 .neq 177 0] [2,4,6,13,18,23,24,178]
def atq:=rg [
bzj 179 15 6,bzk 180 24,bzp 15 4 179,bzq 5 180] [4,5]
def atp:=rg [
bzk 181 23,bzh 182 false 181,by7 183 .gtr 182 1,bzk 184 183,bzc 185 184 false 23,og 186 184 false (.len false (.t 185)),og 187 184 false (.bin .eql (.t 186) (ci 1)),bzc 188 184 false 187,bzc 189 188 true 23,og 190 188 true (.idxA 1 (.t 189) (ci 0)),og 191 188 true (.load none (.t 190)),og 192 188 true (.bin .gtr (.t 191) (.c (.int .u64 262144))),og 193 184 false (.pick (.t 188) (.t 192) (.c (.bool false))),bzo 194 184 193] [2,4,6,13,18,23,194]
def ato:=rg [
bzj 195 15 6,bzp 15 4 195,by6 5 2] [4,5]
def atn:=rg [
bzk 196 23,bzh 197 false 196,by7 198 .eql 197 1] [2,4,6,13,18,23,198]
def atm:=rg [
bzk 199 23,oo 200 (.idxA 1 (.t 199) (ci 0)),bzi 201 200,oo 202 (.cvInt .i64 (.t 201)),bza 203 14 13,bzp 1 203 202] [2,4,6,13,18]
def atl:=rg [
bza 204 13 13,ow (.store 1 (.t 204) (.c (.bool true)))] [2,4,6,13,18]
def atk:=rg [
by7 206 .eql 115 6,bzq 205 206] [2,4,6,13,15,18,115,205]
def atj:=rg [
bzk 208 15,by9 209 n_bb [(.t 208),(ci 1)],bzk 207 209,bzr 210 207 0,bzr 211 207 1,bzq 25 210,bzq 26 211] [2,4,6,13,15,25,26]
def ati:=rg [
bzk 213 15,by9 214 n_bb [(.t 213),(ci 2)],bzk 212 214,bzr 215 212 0,bzr 216 212 1,bzq 27 215,bzq 28 216] [2,4,6,13,15,25,26,27,28]
def ath:=rg [
bzk 218 15,by9 219 n_bb [(.t 218),(ci 3)],bzk 217 219,bzr 220 217 0,bzr 221 217 1,bzq 29 220,bzq 30 221] [2,4,6,13,25,26,27,28,29,30]
def atg:=rg [
bzk 222 26,bza 223 2 13,bzp 1 223 222] [2,4,6,13,25,26,27,28,29,30]
def atf:=rg [
bzk 224 30,bza 225 13 13,bzp 1 225 224] [2,4,6,13,25,26,27,28,29,30]
def ate:=rg [
bzk 226 26,bzk 227 28,oo 228 (.eqn false .bool (.t 226) (.t 227)),bzq 18 228] [2,4,6,13,18,25,26,27,28,29,30]
def atd:=rg [
by6 31 0] [2,4,6,13,18,25,26,27,28,29,30,31]
def atc:=rg [
bzk 229 26,bzk 230 229,bzc 231 230 true 28,bzn 232 230 231] [2,4,6,13,18,25,27,29,30,31,232]
def atb:=rg [
bzk 234 25,oo 235 (.b2s (.t 234)),bza 236 5 2,bzi 237 236,by9 238 n_ac [(.t 235),(.t 237)],bzk 233 238,bzr 239 233 0,bzr 240 233 1,bzq 32 239,bzq 33 240] [2,4,6,13,18,27,29,30,32,33]
def ata:=rg [
bzk 242 27,oo 243 (.b2s (.t 242)),bza 244 5 2,bzi 245 244,by9 246 n_ac [(.t 243),(.t 245)],bzk 241 246,bzr 247 241 0,bzr 248 241 1,bzq 34 247,bzq 35 248] [2,4,6,13,18,29,30,32,33,34,35]
def as9:=rg [
bzk 249 32,bza 250 3 13,bza 251 1 250,bzp 1 251 249] [2,4,6,13,18,29,30,33,34,35]
def as8:=rg [
bzk 252 34,bza 253 8 13,bza 254 1 253,bzp 1 254 252] [2,4,6,13,18,29,30,33,35]
def as7:=rg [
bzk 255 33,bzk 256 35,by8 257 .add 255 256,bzq 31 257] [2,4,6,13,18,29,30,31]
def as6:=rg [
bzk 258 30] [2,4,6,13,18,29,31,258]
def as5:=rg [
bzk 260 29,oo 261 (.b2s (.t 260)),bza 262 5 2,bzi 263 262,by9 264 n_ac [(.t 261),(.t 263)],bzk 259 264,bzr 265 259 0,bzr 266 259 1,bzq 36 265,bzq 37 266] [2,4,6,13,18,31,36,37]
def as4:=rg [
bzk 267 36,bza 268 14 13,bzp 1 268 267] [2,4,6,13,18,31,37]
def as3:=rg [
bzk 269 31,bzk 270 37,by8 271 .add 269 270,bzq 31 271] [2,4,6,13,18,31]
def as2:=rg [
bzk 272 18,bzk 273 272,bzc 274 273 true 31,og 275 273 true (.bin .eql (.t 274) (ci 0)),bzn 276 273 275,bzq 18 276] [2,4,6,13,18]
def as1:=rg [
by7 278 .eql 115 8,bzq 277 278] [2,4,6,13,15,18,115,277]
def as0:=rg [
bzk 280 15,by9 281 n_df [(.t 280),(ci 1)],bzk 279 281,bzr 282 279 0,bzr 283 279 1,bza 284 14 13,bzp 1 284 282,bza 285 13 13,bzp 1 285 283] [2,4,6,13,18]
def asz:=rg [
by7 287 .eql 115 9,bzq 286 287] [2,4,6,13,15,18,286]
def asy:=rg [
bzk 289 15,by9 290 n_bg [(.t 289),(ci 3)],bzk 288 290,bzr 291 288 0,bzr 292 288 1,bzq 38 291,bzq 39 292] [2,4,6,13,15,38,39]
def asx:=rg [
bzk 294 15,by9 295 n_bg [(.t 294),(ci 4)],bzk 293 295,bzr 296 293 0,bzr 297 293 1,bzq 40 296,bzq 41 297] [2,4,6,13,15,38,39,40,41]
def asw:=rg [
bzk 299 15,by9 300 n_cu [(.t 299)],bzk 298 300,bzr 301 298 0,bzr 302 298 1,bzr 303 298 2,bzr 304 298 3,bza 305 3 13,bza 306 1 305,bzp 1 306 301,bza 307 8 13,bza 308 1 307,bzp 1 308 302,bza 309 2 13,bzp 1 309 303,bzq 18 304] [2,4,6,13,18,38,39,40,41]
def asv:=rg [
bzk 310 18,bzk 311 310,bzc 312 311 true 39,og 313 311 true (.fieldA 2 (.t 13)),og 314 311 true (.load none (.t 313)),og 315 311 true (.eqn false .bool (.t 312) (.t 314)),bzn 316 311 315,bzk 317 316,bzc 318 317 true 41,og 319 317 true (.fieldA 2 (.t 13)),og 320 317 true (.load none (.t 319)),og 321 317 true (.eqn false .bool (.t 318) (.t 320)),bzn 322 317 321,bzk 323 322,bzc 324 323 true 38,og 325 323 true (.bin .lss (.t 324) (.c (.int .u64 4294967296))),bzn 326 323 325,bzk 327 326,bzc 328 327 true 40,og 329 327 true (.bin .lss (.t 328) (.c (.int .u64 4294967296))),bzn 330 327 329,bzq 18 330] [2,4,6,13,18,38,40]
def asu:=rg [
bzk 331 38,oo 332 (.cvInt .i64 (.t 331)),bza 333 3 13,bza 334 2 333,bzp 1 334 332] [2,4,6,13,18,40]
def ast:=rg [
bzk 335 40,oo 336 (.cvInt .i64 (.t 335)),bza 337 8 13,bza 338 2 337,bzp 1 338 336] [2,4,6,13,18]
def ass:=rg [
bzk 339 18,bzm 340 339,bzk 341 340,og 342 341 false (.fieldA 2 (.t 13)),og 343 341 false (.load none (.t 342)),bzc 344 341 false 343,og 345 344 true (.load (some 6) (.t 2)),og 346 344 true (.fieldA 3 (.t 13)),og 347 344 true (.load (some 5) (.t 346)),og 348 344 true (.call false n_ah [(.t 345),(.t 347)]),og 349 344 true (.bin .neq (.t 348) (ci 0)),bzc 350 344 true 349,og 351 350 false (.load (some 6) (.t 2)),og 352 350 false (.fieldA 8 (.t 13)),og 353 350 false (.load (some 5) (.t 352)),og 354 350 false (.call false n_ah [(.t 351),(.t 353)]),og 355 350 false (.bin .neq (.t 354) (ci 0)),og 356 344 true (.pick (.t 350) (.c (.bool true)) (.t 355)),og 357 341 false (.pick (.t 344) (.t 356) (.c (.bool false))),bzo 358 341 357] [4,6,13,358]
def asr:=rg [
bzj 359 15 6,bzp 15 4 359,by6 5 2] [4,5]
def asq:=rg [
bza 360 13 13,bzi 361 360,bzm 362 361] [4,13,362]
def asp:=rg [
bza 363 14 13,ow (.store 1 (.t 363) (ci 0))] [4,13]
def aso:=rg [
bzj 364 15 13,bzp 15 4 364,by6 5 0] [4,5]
def c_aa:ICode:=(.seq bre (.seq brd (.seq brc (.seq brb (.cond (.t 49) (.seq bra .ret) (.seq bq9 (.seq bq8 (.cond (.t 58) (.seq bq7 .ret) (.seq bq6 (.seq bq5 (.seq auu (.seq (.block 0 (.seq aut (.cond (.t 70) aus (.seq aur (.cond (.t 74) auq (.seq aup (.cond (.t 78) auo (.seq aun (.cond (.t 82) aum (.seq aul (.cond (.t 86) auk (.seq auj (.cond (.t 90) aui (.seq auh (.cond (.t 94) aug .skip))))))))))))))) (.seq auf (.cond (.t 99) (.seq aue .ret) (.seq aud (.seq auc (.cond (.t 109) (.seq aub .ret) (.seq aua (.cond (.t 113) (.seq at9 .ret) (.seq at8 (.seq (.seq at7 (.block 1 (.seq (.seq at6 (.cond (.t 116) .skip at5)) (.cond (.t 116) (.seq at4 (.seq at3 (.cond (.t 132) at2 .skip))) (.seq at1 (.cond (.t 140) (.seq at0 (.seq atz (.seq aty (.seq atx (.seq atw (.seq atv atu)))))) (.seq att (.cond (.t 170) (.seq ats (.seq (.seq atr (.cond (.t 178) (.seq atq .ret) .skip)) (.seq (.seq atp (.cond (.t 194) (.seq ato .ret) .skip)) (.seq atn (.cond (.t 198) (.seq atm atl) .skip))))) (.seq atk (.cond (.t 205) (.seq atj (.seq ati (.seq ath (.seq atg (.seq atf (.seq ate (.seq atd (.seq (.seq atc (.cond (.t 232) (.seq atb (.seq ata (.seq as9 (.seq as8 as7)))) .skip)) (.seq (.seq as6 (.cond (.t 258) (.seq as5 (.seq as4 as3)) .skip)) as2))))))))) (.seq as1 (.cond (.t 277) as0 (.seq asz (.cond (.t 286) (.seq asy (.seq asx (.seq asw (.seq asv (.seq asu ast))))) .skip)))))))))))))) (.seq ass (.cond (.t 358) (.seq asr .ret) (.seq (.seq asq (.cond (.t 362) asp .skip)) (.seq aso .ret)))))))))))))))))))))))))
def i_aa:IFunc:=⟨2,[.cell 4 (some 15),.t 5],c_aa⟩
def a_aa:=zzy (zzz 88 [aso,asp,asq,asr,ass,ast,asu,asv,asw,asx,asy,asz,as0,as1,as2,as3,as4,as5,as6,as7,as8,as9,ata,atb,atc,atd,ate,atf,atg,ath,ati,atj,atk,atl,atm,atn,ato,atp,atq,atr,ats,att,atu,atv,atw,atx,aty,atz,at0,at1,at2,at3,at4,at5,at6,at7,at8,at9,aua,aub,auc,aud,aue,auf,aug,auh,aui,auj,auk,aul,aum,aun,auo,aup,auq,aur,aus,aut,auu,bq5,bq6,bq7,bq8,bq9,bra,brb,brc,brd,bre])
def r_bb_0:=rg [
oo 4 (.asg (.c .nilS)),by5 5 false] [0,1]
def r_bb_1:=rg [
oo 6 (.asg (.c .nilS))] [0,1,6]
def r_bb_2:=rg [
by5 7 false] [0,1,6,7]
def r_bb_3:=rg [
by6 8 0] [0,1,6,7,8]
def bkc:=rg [
bzk 9 8,bzk 10 0,bzh 11 false 10,by8 12 .lss 9 11] [0,1,6,7,8,12]
def bkb:=rg [
bzk 15 0,bzk 16 8,bzf 17 5 15 16,bza 18 0 17,bzi 19 18,bzk 20 1,by8 21 .eql 19 20,bzk 22 21,bzc 23 22 true 0,bzc 24 22 true 8,og 25 22 true (.idxA 5 (.t 23) (.t 24)),og 26 22 true (.fieldA 1 (.t 25)),og 27 22 true (.load none (.t 26)),og 28 22 true (.bin .eql (.t 27) (ci 2)),bzn 29 22 28] [0,1,6,7,8,29]
def bka:=rg [
bzk 30 0,bzk 31 8,bzf 32 5 30 31,bza 33 3 32,bzi 34 33,bzq 6 34] [0,1,6,8]
def bj9:=rg [
by5 7 true] [0,1,6,7,8]
def bj8:=rg [
bzk 13 8,by7 14 .add 13 1,bzq 8 14] [0,1,6,7,8]
def btx:ICode:=(.seq (.seq bkc (.cond (.t 12) .skip (.exit 0))) (.seq (.block 1 (.seq bkb (.cond (.t 29) (.seq bka bj9) .skip))) bj8))
def bwa:=bzd btx.eq_1
def ao5:=rg [
bzk 35 6,bzk 36 7,bzq 4 35,bzq 5 36] [4,5]
def c_bb:ICode:=(.seq r_bb_0 (.seq r_bb_1 (.seq r_bb_2 (.seq (.seq r_bb_3 (.block 0 (.loop btx))) (.seq ao5 .ret)))))
def i_bb:IFunc:=⟨2,[.t 4,.t 5],c_bb⟩
def a_bb:=zzy (zzz 8 [bj8,.ret,.ret,.ret,bkc,r_bb_3,r_bb_2,r_bb_1,r_bb_0]++[(9,[4,5]),(5,[0,1,6,7,8]),(7,[0,1,6,8]),(6,[0,1,6,7,8,29])])
def r_bw_0:=rg [
oo 4 (.asg (.c .nilS))] [0,1]
def r_bw_1:=rg [
oo 5 (.asg (.c .nilS))] [0,1,5]
def r_bw_2:=rg [
by6 6 0] [0,1,5,6]
def biv:=rg [
bzk 7 6,bzk 8 0,bzh 9 false 8,by8 10 .lss 7 9] [0,1,5,6,10]
def biu:=rg [
bzk 13 0,bzk 14 6,bzf 15 5 13 14,bza 16 0 15,bzi 17 16,bzk 18 1,by8 19 .eql 17 18,bzk 20 19,bzc 21 20 true 0,bzc 22 20 true 6,og 23 20 true (.idxA 5 (.t 21) (.t 22)),og 24 20 true (.fieldA 1 (.t 23)),og 25 20 true (.load none (.t 24)),og 26 20 true (.bin .eql (.t 25) (ci 2)),bzn 27 20 26] [0,1,5,6,27]
def bis:=rg [
bzk 28 5,bzk 29 0,bzk 30 6,bzf 31 5 29 30,bza 32 3 31,bzi 33 32,oo 34 (.lit false 1 1 (.sl []) [(0,(.t 33))]),oo 35 (.append 1 24 (.t 28) (.t 34)),bzq 5 35] [0,1,5,6]
def bir:=rg [
bzk 11 6,by7 12 .add 11 1,bzq 6 12] [0,1,5,6]
def bts:ICode:=(.seq (.seq biv (.cond (.t 10) .skip (.exit 0))) (.seq (.block 1 (.seq biu (.cond (.t 27) bis .skip))) bir))
def bwb:=bzd bts.eq_1
def biq:=rg [
bzk 36 5,bzq 4 36] [4]
def c_bw:ICode:=(.seq r_bw_0 (.seq r_bw_1 (.seq (.seq r_bw_2 (.block 0 (.loop bts))) (.seq biq .ret))))
def i_bw:IFunc:=⟨2,[.t 4],c_bw⟩
def a_bw:Advice:=⟨[35],zzz 6 [bir,.ret,.ret,biv,r_bw_2,r_bw_1,r_bw_0]++[(7,[4]),(4,[0,1,5,6]),(5,[0,1,5,6,27])],[],[],[],[]⟩
def r_az_0:=rg [
oo 4 (.asg (.c (.int .u64 0))),by6 5 0,by6 6 0] [0,1]
def r_az_1:=rg [
bzk 10 1,by7 11 .lss 10 0,bzk 12 11,bzc 13 12 false 1,bzc 14 12 false 0,og 15 12 false (.len false (.t 14)),og 16 12 false (.bin .gtr (.t 13) (.t 15)),bzo 17 12 16] [0,1,17]
@[go_sem] def r_az_2_o:Ops:=[
oo 4 (.asg (.c (.int .u64 0))),by6 5 0,by6 6 1]
def r_az_2:=rg r_az_2_o [4,5,6]
def r_az_3:=rg [
oo 7 (.asg (.c (.int .u64 0)))] [0,1,7]
def r_az_4:=rg [
by6 8 0] [0,1,7,8]
def bkw:=rg [
bzk 18 8,by7 19 .lss 18 10] [0,1,7,8,19]
def bkv:=rg [
bzk 22 1,bzk 23 8,by8 24 .add 22 23,bzk 25 0,bzh 26 false 25,by8 27 .eql 24 26] [0,1,7,8,27]
def bku:=rg [
oo 4 (.asg (.c (.int .u64 0))),by6 5 0,by6 6 3] [4,5,6]
def bkt:=rg [
bzk 28 0,bzk 29 1,bzk 30 8,by8 31 .add 29 30,bzf 32 1 28 31,bzi 33 32,bzq 9 33] [0,1,7,8,9]
def bks:=rg [
bzk 34 8,by7 35 .eql 34 9,bzk 36 35,bzc 37 36 true 9,og 38 36 true (.bin .gtr (.t 37) (.c (.int .u8 1))),bzn 39 36 38] [0,1,7,8,9,39]
def ape:=rg [
oo 4 (.asg (.c (.int .u64 0))),by6 5 0,by6 6 4] [4,5,6]
def apd:=rg [
bzk 40 7,bzk 41 9,oo 42 (.bin .and (.t 41) (.c (.int .u8 127))),oo 43 (.cvInt .u64 (.t 42)),bzk 44 8,oo 45 (.cvInt .u64 (.t 44)),oo 46 (.bin .mul (.c (.int .u64 7)) (.t 45)),by8 47 .shl 43 46,by8 48 .or 40 47,bzq 7 48] [0,1,7,8,9]
def apc:=rg [
bzk 49 9,oo 50 (.bin .lss (.t 49) (.c (.int .u8 128)))] [0,1,7,8,50]
def apb:=rg [
bzk 51 7,bzk 52 8,by7 53 .add 52 1,bzq 4 51,bzq 5 53,by6 6 0] [4,5,6]
def apa:=rg [
bzk 20 8,by7 21 .add 20 1,bzq 8 21] [0,1,7,8]
def avv:ICode:=(.seq (.seq bkw (.cond (.t 19) .skip (.exit 0))) (.seq (.block 1 (.seq (.seq bkv (.cond (.t 27) (.seq bku .ret) .skip)) (.seq bkt (.seq (.seq bks (.cond (.t 39) (.seq ape .ret) .skip)) (.seq apd (.seq apc (.cond (.t 50) (.seq apb .ret) .skip))))))) apa))
def bwc:=bzd avv.eq_1
@[go_sem] def bkx:Ops:=[
oo 4 (.asg (.c (.int .u64 0))),by6 5 0,by6 6 4]
def bky:=rg bkx [4,5,6]
def c_az:ICode:=(.seq r_az_0 (.seq r_az_1 (.cond (.t 17) (.seq r_az_2 .ret) (.seq r_az_3 (.seq (.seq r_az_4 (.block 0 (.loop avv))) (.seq bky .ret))))))
def i_az:IFunc:=⟨2,[.t 4,.t 5,.t 6],c_az⟩
def a_az:=zzy (zzz 5 [bkw,r_az_4,r_az_3,.ret,r_az_1,r_az_0]++[(15,[4,5,6]),(6,[0,1,7,8]),(14,[4,5,6]),(13,[0,1,7,8,50]),(12,[0,1,7,8,9]),(11,[4,5,6]),(10,[0,1,7,8,9,39]),(9,[0,1,7,8,9]),(8,[4,5,6]),(7,[0,1,7,8,27]),(2,[4,5,6])])
def r_af_0:=rg [
oo 4 (.alloc [(.int .i64 0),(.int .i64 0),(.int .u64 0),.nilS,(.int .i64 0)]),by6 5 0,by6 6 0] [0,1,4]
def r_af_1:=rg [
bzk 20 0,bzk 21 1,by9 22 n_az [(.t 20),(.t 21)],bzk 19 22,bzr 23 19 0,bzr 24 19 1,bzr 25 19 2,bzq 7 23,bzq 8 24,bzq 9 25] [0,1,4,7,8,9]
def r_af_2:=rg [
bzk 26 9,by7 27 .neq 26 0] [0,1,4,7,8,9,27]
def r_af_3:=rg [
oo 28 (.build [(.int .i64 0),(.int .i64 0),(.int .u64 0),.nilS,(.int .i64 0)] []),bzk 29 9,bzp 5 4 28,by6 5 0,bzq 6 29] [4,5,6]
def r_af_4:=rg [
bzk 30 7,oo 31 (.bin .shr (.t 30) (.c (.int .u64 3))),oo 32 (.cvInt .i64 (.t 31)),bzk 33 7,oo 34 (.bin .and (.t 33) (.c (.int .u64 7))),oo 35 (.cvInt .i64 (.t 34)),bzk 36 1,oo 37 (.build [(.int .i64 0),(.int .i64 0),(.int .u64 0),.nilS,(.int .i64 0)] [(0,1,(.t 32)),(1,1,(.t 35)),(4,1,(.t 36))]),oo 10 (.alloc [(.int .i64 0),(.int .i64 0),(.int .u64 0),.nilS,(.int .i64 0)]),bzp 5 10 37] [0,1,4,7,8,10]
def r_af_5:=rg [
bzk 38 7,oo 39 (.bin .shr (.t 38) (.c (.int .u64 3))),oo 40 (.bin .lss (.t 39) (.c (.int .u64 1))),bzk 41 40,bzc 42 41 false 7,og 43 41 false (.bin .shr (.t 42) (.c (.int .u64 3))),og 44 41 false (.bin .gtr (.t 43) (.c (.int .u64 536870911))),bzo 45 41 44] [0,1,4,8,10,45]
def r_af_6:=rg [
oo 46 (.build [(.int .i64 0),(.int .i64 0),(.int .u64 0),.nilS,(.int .i64 0)] []),bzp 5 4 46,by6 5 0,by6 6 2] [4,5,6]
def r_af_7:=rg [
bzk 47 1,bzk 48 8,by8 49 .add 47 48,bzq 1 49] [0,1,4,10]
def r_af_8:=rg [
by6 11 0] [0,1,4,10]
def r_af_9:=rg [
bza 50 1 10,bzi 51 50] [0,1,4,10,51]
def bpf:=rg [
by7 54 .eql 51 0,bzq 53 54] [0,1,4,10,51,53]
def bpe:=rg [
bzk 56 0,bzk 57 1,by9 58 n_az [(.t 56),(.t 57)],bzk 55 58,bzr 59 55 0,bzr 60 55 1,bzr 61 55 2,bzq 12 59,bzq 13 60,bzq 14 61] [1,4,10,12,13,14]
def bpd:=rg [
bzk 62 14,by7 63 .neq 62 0] [1,4,10,12,13,14,63]
def bpc:=rg [
oo 64 (.build [(.int .i64 0),(.int .i64 0),(.int .u64 0),.nilS,(.int .i64 0)] []),bzk 65 14,bzp 5 4 64,by6 5 0,bzq 6 65] [4,5,6]
def bpb:=rg [
bzk 66 12,bza 67 2 10,bzp 1 67 66] [1,4,10,13]
def bpa:=rg [
bzj 68 5 10,bzk 69 1,bzk 70 13,by8 71 .add 69 70,bzp 5 4 68,bzq 5 71,by6 6 0] [4,5,6]
def bo9:=rg [
by7 73 .eql 51 1,bzq 72 73] [0,1,4,10,51,72]
def bo8:=rg [
by6 11 8] [0,1,4,10,11]
def bo7:=rg [
by7 75 .eql 51 2,bzq 74 75] [0,1,4,10,51,74]
def bo6:=rg [
bzk 77 0,bzk 78 1,by9 79 n_az [(.t 77),(.t 78)],bzk 76 79,bzr 80 76 0,bzr 81 76 1,bzr 82 76 2,bzq 15 80,bzq 16 81,bzq 17 82] [0,1,4,10,15,16,17]
def bo5:=rg [
bzk 83 17,by7 84 .neq 83 0] [0,1,4,10,15,16,17,84]
def bo4:=rg [
oo 85 (.build [(.int .i64 0),(.int .i64 0),(.int .u64 0),.nilS,(.int .i64 0)] []),bzk 86 17,bzp 5 4 85,by6 5 0,bzq 6 86] [4,5,6]
def bo3:=rg [
bzk 87 1,bzk 88 16,by8 89 .add 87 88,bzq 1 89] [0,1,4,10,15]
def bo2:=rg [
bzk 90 15,bzk 91 0,bzh 92 false 91,bzk 93 1,by8 94 .sub 92 93,oo 95 (.cvInt .u64 (.t 94)),by8 96 .gtr 90 95] [0,1,4,10,15,96]
def bo1:=rg [
oo 97 (.build [(.int .i64 0),(.int .i64 0),(.int .u64 0),.nilS,(.int .i64 0)] []),bzp 5 4 97,by6 5 0,by6 6 3] [4,5,6]
def bo0:=rg [
oo 98 (.lit true 1 0 (.int .u8 0) []),bzk 99 0,bzk 100 1,bzk 101 1,bzk 102 15,oo 103 (.cvInt .i64 (.t 102)),by8 104 .add 101 103,oo 105 (.slice 1 (.t 99) (some (.t 100)) (some (.t 104)) none),oo 106 (.append 1 1 (.t 98) (.t 105)),bza 107 3 10,bzp 1 107 106] [1,4,10,15]
def boz:=rg [
bzj 108 5 10,bzk 109 1,bzk 110 15,oo 111 (.cvInt .i64 (.t 110)),by8 112 .add 109 111,bzp 5 4 108,bzq 5 112,by6 6 0] [4,5,6]
def boy:=rg [
by7 114 .eql 51 5,bzq 113 114] [0,1,4,10,113]
def bow:=rg [
by6 11 4] [0,1,4,10,11]
def bov:=rg [
oo 52 (.build [(.int .i64 0),(.int .i64 0),(.int .u64 0),.nilS,(.int .i64 0)] []),bzp 5 4 52,by6 5 0,by6 6 2] [4,5,6]
def bou:=rg [
bzk 115 0,bzh 116 false 115,bzk 117 1,by8 118 .sub 116 117,bzk 119 11,by8 120 .lss 118 119] [0,1,4,10,11,120]
def bot:=rg [
oo 121 (.build [(.int .i64 0),(.int .i64 0),(.int .u64 0),.nilS,(.int .i64 0)] []),bzp 5 4 121,by6 5 0,by6 6 3] [4,5,6]
def bos:=rg [
bzk 122 11,by7 123 .sub 122 1,bzq 18 123] [0,1,4,10,11,18]
def arx:=rg [
bzk 124 18,by7 125 .geq 124 0] [0,1,4,10,11,18,125]
@[go_sem] def ag4:Ops:=[
bza 128 2 10,bzi 129 128,oo 130 (.bin .shl (.t 129) (.c (.int .u64 8))),bzk 131 0,bzk 132 1,bzk 133 18,by8 134 .add 132 133,bzf 135 1 131 134,bzi 136 135,oo 137 (.cvInt .u64 (.t 136)),by8 138 .or 130 137,bza 139 2 10,bzp 1 139 138]
def ag5:List (Nat×Nat):=[(0,3),(1,3),(2,3),(0,4),(1,4),(2,4),(3,4),(0,5),(1,5),(2,5),(3,5),(4,5),(0,6),(1,6),(2,6),(3,6),(0,7),(1,7),(2,7),(0,8),(1,8),(2,8),(0,9),(1,9),(2,9)]
def arw:ICode:= .region ag4 ag5 [0,1,4,10,11,18]
@[go_sem] theorem r_af_34_u:Gu X K s arw ag5 ag4 [0,1,4,10,11,18]:=go_regionU' _ _ _ _
def arv:=rg [
bzk 126 18,by7 127 .sub 126 1,bzq 18 127] [0,1,4,10,11,18]
def x6:ICode:=(.seq (.seq arx (.cond (.t 125) .skip (.exit 1))) (.seq (.block 2 arw) arv))
def bwd:=bzd x6.eq_1
def wv:=rg [
bzj 140 5 10,bzk 141 1,bzk 142 11,by8 143 .add 141 142,bzp 5 4 140,bzq 5 143,by6 6 0] [4,5,6]
def c_af:ICode:=(.seq r_af_0 (.seq r_af_1 (.seq r_af_2 (.cond (.t 27) (.seq r_af_3 .ret) (.seq r_af_4 (.seq r_af_5 (.cond (.t 45) (.seq r_af_6 .ret) (.seq r_af_7 (.seq r_af_8 (.seq (.seq r_af_9 (.block 0 (.seq bpf (.cond (.t 53) (.seq bpe (.seq (.seq bpd (.cond (.t 63) (.seq bpc .ret) .skip)) (.seq bpb (.seq bpa .ret)))) (.seq bo9 (.cond (.t 72) bo8 (.seq bo7 (.cond (.t 74) (.seq bo6 (.seq (.seq bo5 (.cond (.t 84) (.seq bo4 .ret) .skip)) (.seq bo3 (.seq (.seq bo2 (.cond (.t 96) (.seq bo1 .ret) .skip)) (.seq bo0 (.seq boz .ret)))))) (.seq boy (.cond (.t 113) bow (.seq bov .ret))))))))))) (.seq bou (.cond (.t 120) (.seq bot .ret) (.seq (.seq bos (.block 1 (.loop x6))) (.seq wv .ret))))))))))))))
def i_af:IFunc:=⟨2,[.cell 4 (some 5),.t 5,.t 6],c_af⟩
def a_af:Advice:=⟨[98],bzg [(35,arv),(33,arx),(32,bos),(31,bot),(30,bou),(9,r_af_9),(8,r_af_8),(7,r_af_7),(6,r_af_6),(5,r_af_5),(4,r_af_4),(3,r_af_3),(2,r_af_2),(1,r_af_1),(0,r_af_0)]++[(36,[4,5,6]),(34,[0,1,4,10,11,18]),(16,[4,5,6]),(15,[1,4,10,13]),(14,[4,5,6]),(13,[1,4,10,12,13,14,63]),(12,[1,4,10,12,13,14]),(18,[0,1,4,10,11]),(27,[4,5,6]),(26,[1,4,10,15]),(25,[4,5,6]),(24,[0,1,4,10,15,96]),(23,[0,1,4,10,15]),(22,[4,5,6]),(21,[0,1,4,10,15,16,17,84]),(20,[0,1,4,10,15,16,17]),(29,[0,1,4,10,11]),(10,[4,5,6]),(28,[0,1,4,10,113]),(19,[0,1,4,10,51,74]),(17,[0,1,4,10,51,72]),(11,[0,1,4,10,51,53])],[],[],[],[]⟩
def r_aw_0:=rg [
oo 2 (.asg (.c .nilS)),by6 3 0] [0]
def r_aw_1:=rg [
bzk 9 0,bzh 10 false 9,by7 11 .gtr 10 262144] [0,11]
def r_aw_2:=rg [
oo 2 (.asg (.c .nilS)),by6 3 4] [2,3]
def r_aw_3:=rg [
oo 4 (.asg (.c .nilS))] [0,4]
def r_aw_4:=rg [
by6 5 0] [0,4,5]
def bk4:=rg [
bzk 12 5,bzk 13 0,bzh 14 false 13,by8 15 .lss 12 14] [0,4,5,15]
def bk3:=rg [
bzk 16 4,bzh 17 false 16,by7 18 .eql 17 4096] [0,4,5,18]
def bk2:=rg [
oo 2 (.asg (.c .nilS)),by6 3 4] [2,3]
def bk1:=rg [
bzk 20 0,bzk 21 5,by9 22 n_af [(.t 20),(.t 21)],bzk 19 22,bzr 23 19 0,bzr 24 19 1,bzr 25 19 2,oo 6 (.alloc [(.int .i64 0),(.int .i64 0),(.int .u64 0),.nilS,(.int .i64 0)]),bzp 5 6 23,bzq 7 24,bzq 8 25] [0,4,6,7,8]
def bk0:=rg [
bzk 26 8,by7 27 .neq 26 0] [0,4,6,7,8,27]
def ap4:=rg [
bzk 28 8,oo 2 (.asg (.c .nilS)),bzq 3 28] [2,3]
def ap3:=rg [
bzk 29 4,bzj 30 5 6,oo 31 (.lit false 5 1 (.agg [(.int .i64 0),(.int .i64 0),(.int .u64 0),(.sl []),(.int .i64 0)]) [(0,(.t 30))]),oo 32 (.append 5 56 (.t 29) (.t 31)),bzq 4 32] [0,4,7]
def ap2:=rg [
bzk 33 7,bzq 5 33] [0,4,5]
def avy:ICode:=(.seq (.seq bk4 (.cond (.t 15) .skip (.exit 0))) (.block 1 (.seq (.seq bk3 (.cond (.t 18) (.seq bk2 .ret) .skip)) (.seq (.seq (.free 6) bk1) (.seq (.seq bk0 (.cond (.t 27) (.seq ap4 .ret) .skip)) (.seq ap3 ap2))))))
def bwe:=bzd avy.eq_1
def ap1:=rg [
bzk 34 4,bzq 2 34,by6 3 0] [2,3]
def c_aw:ICode:=(.seq r_aw_0 (.seq r_aw_1 (.cond (.t 11) (.seq r_aw_2 .ret) (.seq r_aw_3 (.seq r_aw_4 (.seq (.block 0 (.loop avy)) (.seq ap1 .ret)))))))
def i_aw:IFunc:=⟨1,[.t 2,.t 3],c_aw⟩
def a_aw:Advice:=⟨[32],zzz 12 [ap2,ap3,ap4,bk0,bk1,bk2,bk3,bk4,r_aw_4,r_aw_3,r_aw_2,r_aw_1,r_aw_0]++[(13,[2,3])],[],[(8,[6])],[],[]⟩
def r_ai_0:=rg [
oo 2 (.box 6 (.t 0)),oo 4 (.asg (.c .nilS)),by6 5 0] [1,2]
def r_ai_1:=rg [
bzk 18 1,by9 19 n_aw [(.t 18)],bzk 17 19,bzr 20 17 0,bzr 21 17 1,bzq 6 20,bzq 7 21] [2,6,7]
def r_ai_2:=rg [
bzk 22 7,by7 23 .neq 22 0] [2,6,7,23]
def r_ai_3:=rg [
bzk 24 7,oo 4 (.asg (.c .nilS)),bzq 5 24] [4,5]
def r_ai_4:=rg [
bzk 25 6,by9 26 n_bw [(.t 25),(ci 1)],bzq 8 26] [2,8]
def r_ai_5:=rg [
bzk 27 8,bzh 28 false 27,by7 29 .gtr 28 4096] [2,8,29]
@[go_sem] def r_ai_6_o:Ops:=[
oo 4 (.asg (.c .nilS)),by6 5 4]
def r_ai_6:=rg r_ai_6_o [4,5]
def r_ai_7:=rg [
oo 9 (.asg (.c .nilS))] [2,8,9]
def r_ai_8:=rg [
by6 10 0] [2,8,9,10]
def bns:=rg [
bzk 30 10,bzk 31 8,bzh 32 false 31,by8 33 .lss 30 32] [2,8,9,10,33]
def arb:=rg [
bzk 37 8,bzk 38 10,bzf 39 1 37 38,bzi 40 39,by9 41 n_aw [(.t 40)],bzk 36 41,bzr 42 36 0,bzr 43 36 1,bzq 11 42,bzq 12 43] [2,8,9,10,11,12]
def ara:=rg [
bzk 44 12,by7 45 .neq 44 0] [2,8,9,10,11,12,45]
def aq9:=rg [
bzk 46 12,oo 4 (.asg (.c .nilS)),bzq 5 46] [4,5]
def aq8:=rg [
bzk 48 11,by9 49 n_bb [(.t 48),(ci 2)],bzk 47 49,bzr 50 47 0,bzr 51 47 1,bzq 13 50,bzq 14 51] [2,8,9,10,13,14]
def aq7:=rg [
bzk 52 14,bzm 53 52] [2,8,9,10,13,53]
def aq6:=rg [
oo 4 (.asg (.c .nilS)),by6 5 2] [4,5]
def aq5:=rg [
bzj 55 6 2,bzk 56 13,by9 57 n_aa [(.t 55),(.t 56)],bzk 54 57,bzr 58 54 0,bzr 59 54 1,oo 15 (.alloc [(.int .i64 0),(.bool false),(.bool false),(.bool false),(.int .i64 0),(.int .i64 0),.nilS,.nilS,(.bool false),(.int .i64 0),(.int .i64 0),.nilS,.nilS,(.bool false),(.int .i64 0)]),bzp 15 15 58,bzq 16 59] [2,8,9,10,15,16]
def aq4:=rg [
bzk 60 16,by7 61 .neq 60 0] [2,8,9,10,15,16,61]
def aq3:=rg [
bzk 62 16,oo 4 (.asg (.c .nilS)),bzq 5 62] [4,5]
def aq2:=rg [
bzk 63 9,bzj 64 15 15,oo 65 (.lit false 15 1 (.agg [(.int .i64 0),(.bool false),(.bool false),(.bool false),(.int .i64 0),(.int .i64 0),(.sl []),(.sl []),(.bool false),(.int .i64 0),(.int .i64 0),(.sl []),(.sl []),(.bool false),(.int .i64 0)]) [(0,(.t 64))]),oo 66 (.append 15 176 (.t 63) (.t 65)),bzq 9 66] [2,8,9,10]
def aq1:=rg [
bzk 34 10,by7 35 .add 34 1,bzq 10 35] [2,8,9,10]
def ti:ICode:=(.seq (.seq bns (.cond (.t 33) .skip (.exit 0))) (.seq (.block 1 (.seq arb (.seq (.seq ara (.cond (.t 45) (.seq aq9 .ret) .skip)) (.seq aq8 (.seq (.seq aq7 (.cond (.t 53) (.seq aq6 .ret) .skip)) (.seq (.seq (.free 15) aq5) (.seq (.seq aq4 (.cond (.t 61) (.seq aq3 .ret) .skip)) aq2))))))) aq1))
def bwf:=bzd ti.eq_1
def r5:=rg [
bzk 67 9,bzq 4 67,by6 5 0] [4,5]
def c_ai:ICode:=(.seq r_ai_0 (.seq r_ai_1 (.seq r_ai_2 (.cond (.t 23) (.seq r_ai_3 .ret) (.seq r_ai_4 (.seq r_ai_5 (.cond (.t 29) (.seq r_ai_6 .ret) (.seq r_ai_7 (.seq (.seq r_ai_8 (.block 0 (.loop ti))) (.seq r5 .ret))))))))))
def i_ai:IFunc:=⟨2,[.t 4,.t 5],c_ai⟩
def a_ai:Advice:=⟨[66],bzg [(20,aq1),(9,bns),(8,r_ai_8),(7,r_ai_7),(5,r_ai_5),(4,r_ai_4),(3,r_ai_3),(2,r_ai_2),(1,r_ai_1),(0,r_ai_0)]++[(21,[4,5]),(10,[2,8,9,10]),(19,[4,5]),(18,[2,8,9,10,15,16,61]),(17,[2,8,9,10,15,16]),(16,[4,5]),(15,[2,8,9,10,13,53]),(14,[2,8,9,10,13,14]),(13,[4,5]),(12,[2,8,9,10,11,12,45]),(11,[2,8,9,10,11,12]),(6,[4,5])],[],[(17,[15])],[],[]⟩
def r_ag_0:=rg [
oo 1 (.box 6 (.t 0)),by6 2 0] [1]
def r_ag_1:=rg [
bza 8 0 1,bzi 9 8,by7 10 .eql 9 5,bzk 11 10,og 12 11 false (.fieldA 0 (.t 1)),og 13 11 false (.load none (.t 12)),og 14 11 false (.bin .eql (.t 13) (ci 6)),bzo 15 11 14] [1,15]
def r_ag_2:=rg [
by6 2 5] [2]
def r_ag_3:=rg [
bza 16 0 1,bzi 17 16,by7 18 .lss 17 0,bzk 19 18,og 20 19 false (.fieldA 0 (.t 1)),og 21 19 false (.load none (.t 20)),og 22 19 false (.bin .gtr (.t 21) (ci 17)),bzo 23 19 22] [1,23]
def r_ag_4:=rg [
by6 2 1] [2]
def r_ag_5:=rg [
bza 24 2 1,bzi 25 24,bzh 26 false 25,bzq 3 26] [1,3]
def r_ag_6:=rg [
bzk 27 3,by7 28 .eql 27 0,bzq 4 28] [1,3,4]
def r_ag_7:=rg [
bza 29 0 1,bzi 30 29] [1,3,4,30]
def r_ag_8:=rg [
by7 32 .eql 30 10,bzq 31 32] [1,3,4,30,31]
def r_ag_9:=rg [
bzk 33 3,by7 34 .eql 33 1,bzq 4 34] [1,4]
def boq:=rg [
by7 36 .eql 30 11,bzq 35 36] [1,3,4,30,35]
def bop:=rg [
bzk 37 3,by7 38 .eql 37 2,bzq 4 38] [1,4]
def boo:=rg [
by7 40 .eql 30 12,bzq 39 40] [1,3,4,30,39]
def bon:=rg [
bzk 41 3,bza 42 1 1,bzi 43 42,bzh 44 false 43,by8 45 .eql 41 44,bzq 4 45] [1,4]
def bom:=rg [
by7 47 .eql 30 13,bzq 46 47] [1,3,4,46]
def bol:=rg [
bzk 48 3,by7 49 .geq 48 1,bzk 50 49,bzc 51 50 true 3,og 52 50 true (.bin .leq (.t 51) (ci 255)),bzn 53 50 52,bzq 4 53] [1,4]
def bok:=rg [
bzk 54 4,bzm 55 54,bzk 56 55,og 57 56 false (.fieldA 0 (.t 1)),og 58 56 false (.load none (.t 57)),og 59 56 false (.bin .neq (.t 58) (ci 12)),bzc 60 56 false 59,og 61 60 true (.fieldA 1 (.t 1)),og 62 60 true (.load none (.t 61)),og 63 60 true (.len false (.t 62)),og 64 60 true (.bin .gtr (.t 63) (ci 0)),og 65 56 false (.pick (.t 60) (.t 64) (.c (.bool false))),bzo 66 56 65] [1,66]
def boj:=rg [
by6 2 1] [2]
def boi:=rg [
by6 5 0] [1,5]
def aru:=rg [
bzk 67 5,bza 68 1 1,bzi 69 68,bzh 70 false 69,by8 71 .lss 67 70] [1,5,71]
def art:=rg [
bza 74 1 1,bzi 75 74,bzk 76 5,bzf 77 1 75 76,bzi 78 77,oo 79 (.bin .eql (.t 78) (.c (.str []))),bzk 80 79,og 81 80 false (.fieldA 1 (.t 1)),og 82 80 false (.load none (.t 81)),bzc 83 80 false 5,og 84 80 false (.idxA 1 (.t 82) (.t 83)),og 85 80 false (.load none (.t 84)),og 86 80 false (.len true (.t 85)),og 87 80 false (.bin .gtr (.t 86) (ci 100)),bzo 88 80 87] [1,5,88]
def ars:=rg [
by6 2 1] [2]
def arr:=rg [
by6 6 0] [1,5,6]
def arq:=rg [
bzk 89 6,bzk 90 5,by8 91 .lss 89 90] [1,5,6,91]
@[go_sem] def agm:Ops:=[
bza 94 1 1,bzi 95 94,bzk 96 6,bzf 97 1 95 96,bzi 98 97,bza 99 1 1,bzi 100 99,bzk 101 5,bzf 102 1 100 101,bzi 103 102,by8 104 .eql 98 103]
def agn:List (Nat×Nat):=[(0,2),(1,2),(0,5),(1,5),(2,5),(3,5),(4,5),(0,6),(1,6),(2,6),(3,6),(4,6),(0,7),(1,7),(2,7),(3,7),(4,7),(5,7),(6,7),(0,8),(1,8),(2,8),(3,8),(4,8),(0,9),(1,9),(2,9),(3,9),(4,9)]
def arp:ICode:= .region agm agn [1,5,6,104]
@[go_sem] theorem r_ag_24_u:Gu X K s arp agn agm [1,5,6,104]:=go_regionU' _ _ _ _
def aro:=rg [
by6 2 1] [2]
def arn:=rg [
bzk 92 6,by7 93 .add 92 1,bzq 6 93] [1,5,6]
def xz:ICode:=(.seq (.seq arq (.cond (.t 91) .skip (.exit 3))) (.seq (.block 4 (.seq arp (.cond (.t 104) (.seq aro .ret) .skip))) arn))
def bwg:=bzd xz.eq_1
def arm:=rg [
bzk 72 5,by7 73 .add 72 1,bzq 5 73] [1,5]
def av3:ICode:=(.seq (.seq aru (.cond (.t 71) .skip (.exit 1))) (.seq (.block 2 (.seq (.seq art (.cond (.t 88) (.seq ars .ret) .skip)) (.seq arr (.block 3 (.loop xz))))) arm))
def bwh:=bzd av3.eq_1
def boh:=rg [
bza 105 0 1,bzi 106 105,by7 107 .eql 106 16,bzk 108 107,og 109 108 false (.fieldA 0 (.t 1)),og 110 108 false (.load none (.t 109)),og 111 108 false (.bin .eql (.t 110) (ci 17)),bzo 112 108 111,bzq 7 112] [1,7]
def bog:=rg [
bzk 113 7,bzk 114 113,og 115 114 true (.fieldA 3 (.t 1)),og 116 114 true (.load none (.t 115)),og 117 114 true (.bin .lss (.t 116) (ci 1)),bzc 118 114 true 117,og 119 118 false (.fieldA 3 (.t 1)),og 120 118 false (.load none (.t 119)),og 121 118 false (.bin .gtr (.t 120) (ci 4096)),og 122 114 true (.pick (.t 118) (.c (.bool true)) (.t 121)),bzn 123 114 122,bzk 124 123,bzc 125 124 false 7,og 126 124 false (.un .not (.t 125)),bzc 127 124 false 126,og 128 127 true (.fieldA 3 (.t 1)),og 129 127 true (.load none (.t 128)),og 130 127 true (.bin .neq (.t 129) (ci 0)),og 131 124 false (.pick (.t 127) (.t 130) (.c (.bool false))),bzo 132 124 131] [1,132]
def bof:=rg [
by6 2 1] [2]
def boe:=rg [
bza 133 0 1,bzi 134 133,by7 135 .eql 134 14] [1,135]
def bod:=rg [
bza 136 4 1,bzi 137 136,by7 138 .lss 137 1,bzk 139 138,og 140 139 false (.fieldA 4 (.t 1)),og 141 139 false (.load none (.t 140)),og 142 139 false (.bin .gtr (.t 141) (ci 18)),bzo 143 139 142,bzk 144 143,og 145 144 false (.fieldA 5 (.t 1)),og 146 144 false (.load none (.t 145)),og 147 144 false (.bin .lss (.t 146) (ci 0)),bzo 148 144 147,bzk 149 148,og 150 149 false (.fieldA 5 (.t 1)),og 151 149 false (.load none (.t 150)),og 152 149 false (.fieldA 4 (.t 1)),og 153 149 false (.load none (.t 152)),og 154 149 false (.bin .gtr (.t 151) (.t 153)),bzo 155 149 154] [155]
def boc:=rg [
by6 2 1] [2]
def bob:=rg [
bza 156 4 1,bzi 157 156,by7 158 .neq 157 0,bzk 159 158,og 160 159 false (.fieldA 5 (.t 1)),og 161 159 false (.load none (.t 160)),og 162 159 false (.bin .neq (.t 161) (ci 0)),bzo 163 159 162] [163]
def boa:=rg [
by6 2 1] [2]
def bn9:=rg [
by6 2 0] [2]
def c_ag:ICode:=(.seq r_ag_0 (.seq r_ag_1 (.cond (.t 15) (.seq r_ag_2 .ret) (.seq r_ag_3 (.cond (.t 23) (.seq r_ag_4 .ret) (.seq r_ag_5 (.seq r_ag_6 (.seq (.seq r_ag_7 (.block 0 (.seq r_ag_8 (.cond (.t 31) r_ag_9 (.seq boq (.cond (.t 35) bop (.seq boo (.cond (.t 39) bon (.seq bom (.cond (.t 46) bol .skip)))))))))) (.seq bok (.cond (.t 66) (.seq boj .ret) (.seq (.seq boi (.block 1 (.loop av3))) (.seq boh (.seq bog (.cond (.t 132) (.seq bof .ret) (.seq (.seq boe (.cond (.t 135) (.seq bod (.cond (.t 155) (.seq boc .ret) .skip)) (.seq bob (.cond (.t 163) (.seq boa .ret) .skip)))) (.seq bn9 .ret))))))))))))))))
def i_ag:IFunc:=⟨1,[.t 2],c_ag⟩
def a_ag:=zzy (zzz 35 [boc,.ret,.ret,.ret,.ret,.ret,.ret,.ret,.ret,.ret,.ret,.ret,.ret,.ret,.ret,.ret,aru,boi,boj,bok,bol,bom,bon,boo,bop,boq,r_ag_9,r_ag_8,r_ag_7,r_ag_6,r_ag_5,r_ag_4,r_ag_3,r_ag_2,r_ag_1,r_ag_0]++[(36,[2]),(33,[2]),(32,[155]),(34,[163]),(31,[1,135]),(30,[2]),(29,[1,132]),(28,[1,7]),(20,[1,5]),(25,[1,5,6]),(27,[2]),(26,[1,5,6,104]),(24,[1,5,6,91]),(23,[1,5,6]),(22,[2]),(21,[1,5,88])])
def r_au_0:=rg [
oo 3 (.box 6 (.t 0)),by6 6 0,by6 7 0] [1,2,3]
def r_au_1:=rg [
bzk 12 1,by7 13 .gtr 12 16,bzk 14 13,bzc 15 14 false 2,og 16 14 false (.bin .geq (.t 15) (ci 100)),bzo 17 14 16] [1,2,3,17]
def r_au_2:=rg [
bzk 18 2,bzq 6 18,by6 7 4] [6,7]
def r_au_3:=rg [
bzj 19 6 3,by9 20 n_ag [(.t 19)],bzq 8 20] [1,2,3,8]
def r_au_4:=rg [
bzk 21 8,by7 22 .neq 21 0] [1,2,3,8,22]
def r_au_5:=rg [
bzk 23 2,bzk 24 8,bzq 6 23,bzq 7 24] [6,7]
def r_au_6:=rg [
bzk 25 2,by7 26 .add 25 1,bzq 2 26] [1,2,3]
def r_au_7:=rg [
by6 9 0] [1,2,3,9]
def blb:=rg [
bzk 27 9,bza 28 2 3,bzi 29 28,bzh 30 false 29,by8 31 .lss 27 30] [1,2,3,9,31]
def bla:=rg [
bza 35 2 3,bzi 36 35,bzk 37 9,bzf 38 6 36 37,bzj 39 6 38,bzk 40 1,by7 41 .add 40 1,bzk 42 2,by9 43 n_au [(.t 39),(.t 41),(.t 42)],bzk 34 43,bzr 44 34 0,bzr 45 34 1,bzq 10 44,bzq 11 45] [1,3,9,10,11]
def aqf:=rg [
bzk 46 11,by7 47 .neq 46 0] [1,3,9,10,11,47]
def aqe:=rg [
bzk 48 10,bzk 49 11,bzq 6 48,bzq 7 49] [6,7]
def aqd:=rg [
bzk 50 10,bzq 2 50] [1,2,3,9]
def aqc:=rg [
bzk 32 9,by7 33 .add 32 1,bzq 9 33] [1,2,3,9]
def av0:ICode:=(.seq (.seq blb (.cond (.t 31) .skip (.exit 0))) (.seq (.block 1 (.seq bla (.seq (.seq aqf (.cond (.t 47) (.seq aqe .ret) .skip)) aqd))) aqc))
def bwi:=bzd av0.eq_1
def aqb:=rg [
bzk 51 2,bzq 6 51,by6 7 0] [6,7]
def c_au:ICode:=(.seq r_au_0 (.seq r_au_1 (.cond (.t 17) (.seq r_au_2 .ret) (.seq r_au_3 (.seq r_au_4 (.cond (.t 22) (.seq r_au_5 .ret) (.seq r_au_6 (.seq (.seq r_au_7 (.block 0 (.loop av0))) (.seq aqb .ret)))))))))
def i_au:IFunc:=⟨3,[.t 6,.t 7],c_au⟩
def a_au:=zzy (zzz 13 [aqc,.ret,.ret,.ret,.ret,blb,r_au_7,r_au_6,r_au_5,r_au_4,r_au_3,r_au_2,r_au_1,r_au_0]++[(14,[6,7]),(9,[1,2,3,9]),(12,[6,7]),(11,[1,3,9,10,11,47]),(10,[1,3,9,10,11])])
def r_da_0:=rg [
oo 1 (.box 6 (.t 0)),by6 2 0] [1]
def r_da_1:=rg [
bzj 6 6 1,by9 7 n_au [(.t 6),(ci 1),(ci 0)],bzk 5 7,bzr 8 5 0,bzr 9 5 1,bzq 3 8,bzq 4 9] [4]
def r_da_2:=rg [
bzk 10 4,bzq 2 10] [2]
def c_da:ICode:=(.seq r_da_0 (.seq r_da_1 (.seq r_da_2 .ret)))
def i_da:IFunc:=⟨1,[.t 2],c_da⟩
def a_da:=zzy (zzz 2 [r_da_2,r_da_1,r_da_0])
def r_av_0:=rg [
oo 2 (.box 6 (.t 0)),by6 4 0] [1,2]
def r_av_1:=rg [
bzk 8 1,by7 9 .gtr 8 20,bzk 10 9,og 11 10 false (.fieldA 2 (.t 2)),og 12 10 false (.load none (.t 11)),og 13 10 false (.len false (.t 12)),og 14 10 false (.bin .gtr (.t 13) (ci 300)),bzo 15 10 14,bzk 16 15,og 17 16 false (.fieldA 1 (.t 2)),og 18 16 false (.load none (.t 17)),og 19 16 false (.len false (.t 18)),og 20 16 false (.bin .gtr (.t 19) (ci 300)),bzo 21 16 20] [1,2,21]
def r_av_2:=rg [
by6 4 1000] [4]
def r_av_3:=rg [
by6 5 1] [1,2,5]
def r_av_4:=rg [
by6 6 0] [1,2,5,6]
def bk8:=rg [
bzk 22 6,bza 23 1 2,bzi 24 23,bzh 25 false 24,by8 26 .lss 22 25] [1,2,5,6,26]
def bk7:=rg [
bza 29 1 2,bzi 30 29,bzk 31 6,bzf 32 1 30 31,bzi 33 32,bzh 34 true 33,by7 35 .gtr 34 200] [1,2,5,6,35]
def bk6:=rg [
by6 4 1000] [4]
def bk5:=rg [
bzk 27 6,by7 28 .add 27 1,bzq 6 28] [1,2,5,6]
def bt0:ICode:=(.seq (.seq bk8 (.cond (.t 26) .skip (.exit 0))) (.seq (.block 1 (.seq bk7 (.cond (.t 35) (.seq bk6 .ret) .skip))) bk5))
def bwj:=bzd bt0.eq_1
def bk9:=rg [
by6 7 0] [1,2,5,7]
def aqa:=rg [
bzk 36 7,bza 37 2 2,bzi 38 37,bzh 39 false 38,by8 40 .lss 36 39] [1,2,5,7,40]
def ap9:=rg [
bzk 43 5,bza 44 2 2,bzi 45 44,bzk 46 7,bzf 47 6 45 46,bzj 48 6 47,bzk 49 1,by7 50 .add 49 1,by9 51 n_av [(.t 48),(.t 50)],by8 52 .add 43 51,bzq 5 52] [1,2,5,7]
def ap8:=rg [
bzk 53 5,by7 54 .gtr 53 1000] [1,2,5,7,54]
def ap7:=rg [
by6 4 1000] [4]
def ap6:=rg [
bzk 41 7,by7 42 .add 41 1,bzq 7 42] [1,2,5,7]
def avz:ICode:=(.seq (.seq aqa (.cond (.t 40) .skip (.exit 2))) (.seq (.block 3 (.seq ap9 (.seq ap8 (.cond (.t 54) (.seq ap7 .ret) .skip)))) ap6))
def bwk:=bzd avz.eq_1
def ap5:=rg [
bzk 55 5,bzq 4 55] [4]
def c_av:ICode:=(.seq r_av_0 (.seq r_av_1 (.cond (.t 21) (.seq r_av_2 .ret) (.seq r_av_3 (.seq (.seq r_av_4 (.block 0 (.loop bt0))) (.seq (.seq bk9 (.block 2 (.loop avz))) (.seq ap5 .ret)))))))
def i_av:IFunc:=⟨2,[.t 4],c_av⟩
def a_av:=zzy (zzz 14 [ap7,ap8,ap9,.ret,.ret,.ret,.ret,.ret,.ret,bk8,r_av_4,r_av_3,r_av_2,r_av_1,r_av_0]++[(15,[4]),(11,[1,2,5,7]),(10,[1,2,5,7,40]),(9,[1,2,5,7]),(6,[1,2,5,6]),(8,[4]),(7,[1,2,5,6,35])])
def r_dj_0:=rg [
oo 1 (.box 6 (.t 0)),by5 2 false] [1]
def r_dj_1:=rg [
bzj 4 6 1,by9 5 n_av [(.t 4),(ci 1)],bzq 3 5] [3]
def r_dj_2:=rg [
bzk 6 3,by7 7 .leq 6 150,bzq 2 7] [2]
def c_dj:ICode:=(.seq r_dj_0 (.seq r_dj_1 (.seq r_dj_2 .ret)))
def i_dj:IFunc:=⟨1,[.t 2],c_dj⟩
def a_dj:=zzy (zzz 2 [r_dj_2,r_dj_1,r_dj_0])
def r_cc_0:=rg [
oo 3 (.box 6 (.t 0)),oo 4 (.box 5 (.t 1)),oo 6 (.alloc [(.int .i64 0),.nilS,.nilS,(.int .i64 0),(.int .i64 0),(.int .i64 0)]),by5 7 false] [2,3,4,6]
def r_cc_1:=rg [
bza 8 0 3,bzi 9 8] [2,3,4,6,9]
def r_cc_2:=rg [
by7 11 .eql 9 10,bzq 10 11] [2,3,4,6,9,10]
def r_cc_3:=rg [
by6 2 0] [2,3,6]
def r_cc_4:=rg [
by7 13 .eql 9 11,bzq 12 13] [2,3,4,6,9,12]
def r_cc_5:=rg [
bzk 14 2,by7 15 .rem 14 2,bzq 2 15] [2,3,6]
def r_cc_6:=rg [
by7 17 .eql 9 13,bzq 16 17] [2,3,4,6,16]
def r_cc_7:=rg [
bza 18 1 4,bzi 19 18,by7 20 .lss 19 0,bzk 21 20,og 22 21 false (.fieldA 1 (.t 4)),og 23 21 false (.load none (.t 22)),og 24 21 false (.fieldA 2 (.t 3)),og 25 21 false (.load none (.t 24)),og 26 21 false (.len false (.t 25)),og 27 21 false (.bin .geq (.t 23) (.t 26)),bzo 28 21 27] [3,4,6,28]
def r_cc_8:=rg [
oo 29 (.build [(.int .i64 0),.nilS,.nilS,(.int .i64 0),(.int .i64 0),(.int .i64 0)] []),bzp 6 6 29,by5 7 false] [6,7]
def r_cc_9:=rg [
bza 30 1 4,bzi 31 30,bzq 2 31] [2,3,6]
def bip:=rg [
bzk 32 2,bza 33 2 3,bzi 34 33,bzh 35 false 34,by8 36 .geq 32 35] [2,3,6,36]
def bio:=rg [
oo 37 (.build [(.int .i64 0),.nilS,.nilS,(.int .i64 0),(.int .i64 0),(.int .i64 0)] []),bzp 6 6 37,by5 7 false] [6,7]
def bim:=rg [
bza 38 2 3,bzi 39 38,bzk 40 2,bzf 41 6 39 40,bzj 42 6 41,bzp 6 6 42,by5 7 true] [6,7]
def c_cc:ICode:=(.seq r_cc_0 (.seq (.seq r_cc_1 (.block 0 (.seq r_cc_2 (.cond (.t 10) r_cc_3 (.seq r_cc_4 (.cond (.t 12) r_cc_5 (.seq r_cc_6 (.cond (.t 16) (.seq (.seq r_cc_7 (.cond (.t 28) (.seq r_cc_8 .ret) .skip)) r_cc_9) .skip)))))))) (.seq bip (.cond (.t 36) (.seq bio .ret) (.seq bim .ret)))))
def i_cc:IFunc:=⟨3,[.cell 6 (some 6),.t 7],c_cc⟩
def a_cc:=zzy (zzz 12 [bim,bio,bip,r_cc_9,r_cc_8,r_cc_7,r_cc_6,r_cc_5,r_cc_4,r_cc_3,r_cc_2,r_cc_1,r_cc_0])
def r_bo_0:=rg [
oo 2 (.box 6 (.t 0)),oo 3 (.box 5 (.t 1)),by6 4 0] [2,3]
def r_bo_1:=rg [
bza 7 4 3,bzi 8 7,bzh 9 false 8,bzq 5 9,by5 6 true] [2,5,6]
def r_bo_2:=rg [
bza 10 0 2,bzi 11 10] [2,5,6,11]
def r_bo_3:=rg [
by7 13 .eql 11 11,bzq 12 13] [2,5,6,11,12]
def r_bo_4:=rg [
by7 15 .eql 11 10,bzq 14 15] [2,5,6,11,14]
def r_bo_5:=rg [
by7 17 .eql 11 12,bzq 16 17] [2,5,6,11,16]
def r_bo_6:=rg [
by7 19 .eql 11 13,bzq 18 19] [5,6,18]
def r_bo_7:=rg [
bzk 20 5,by7 21 .rem 20 2,by7 22 .eql 21 0,bzk 23 5,by7 24 .quo 23 2,bzq 6 22,bzq 5 24] [5,6]
def r_bo_8:=rg [
bzk 25 6,bzk 26 25,bzc 27 26 true 5,og 28 26 true (.bin .gtr (.t 27) (ci 16384)),bzn 29 26 28] [6,29]
def r_bo_9:=rg [
by6 4 4] [4]
def bjd:=rg [
bzk 30 5,bza 31 2 2,bzi 32 31,bzh 33 false 32,by8 34 .eql 30 33,bzq 6 34] [6]
def bjc:=rg [
bzk 35 5,by7 36 .eql 35 1,bzq 6 36] [6]
def bjb:=rg [
bzk 37 6,bzm 38 37] [38]
def bja:=rg [
by6 4 1] [4]
def bi9:=rg [
by6 4 0] [4]
def c_bo:ICode:=(.seq r_bo_0 (.seq r_bo_1 (.seq (.seq r_bo_2 (.block 0 (.seq (.block 4 (.seq (.block 3 (.seq (.block 2 (.seq (.block 1 (.seq (.seq (.seq r_bo_3 (.cond (.t 12) (.exit 1) .skip)) (.seq (.seq r_bo_4 (.cond (.t 14) (.exit 2) .skip)) (.seq (.seq r_bo_5 (.cond (.t 16) (.exit 3) .skip)) (.seq r_bo_6 (.cond (.t 18) (.exit 4) .skip))))) (.exit 0))) r_bo_7)) (.seq (.seq r_bo_8 (.cond (.t 29) (.seq r_bo_9 .ret) .skip)) (.exit 0)))) (.seq bjd (.exit 0)))) (.seq bjc (.exit 0))))) (.seq bjb (.cond (.t 38) (.seq bja .ret) (.seq bi9 .ret))))))
def i_bo:IFunc:=⟨2,[.t 4],c_bo⟩
def a_bo:=zzy (zzz 14 [bi9,bja,bjb,bjc,bjd,r_bo_9,r_bo_8,r_bo_7,r_bo_6,r_bo_5,r_bo_4,r_bo_3,r_bo_2,r_bo_1,r_bo_0])
def r_b9_0:=rg [
by6 2 0] [0]
def r_b9_1:=rg [
by6 3 0] [0,3]
def r_b9_2:=rg [
bzk 6 0,bzh 7 false 6,oo 8 (.mv (ci 0))] [3,6,7,8]
def bkm:=rg [
by8 9 .lss 8 7] [3,6,7,8,9]
def bkl:=rg [
bzf 10 1 6 8,bzi 11 10,bzq 5 11] [3,5,6,7,8]
def bkk:=rg [
bzk 12 5,oo 13 (.bin .shr (.t 12) (.c (.int .u64 6))),oo 14 (.bin .neq (.t 13) (.c (.int .u8 2)))] [3,6,7,8,14]
def bkj:=rg [
bzk 15 3,by7 16 .add 15 1,bzq 3 16] [3,6,7,8]
def bki:=rg [
by7 17 .add 8 1,bzk 8 17] [3,6,7,8]
def btz:ICode:=(.seq bkm (.seq (.cond (.t 9) .skip (.exit 0)) (.seq (.block 1 (.seq bkl (.seq bkk (.cond (.t 14) bkj .skip)))) bki)))
def bwl:=bzd btz.eq_1
def r_b9_9:=rg [
bzk 18 3,bzq 2 18] [2]
def c_b9:ICode:=(.seq r_b9_0 (.seq r_b9_1 (.seq (.seq r_b9_2 (.block 0 (.loop btz))) (.seq r_b9_9 .ret))))
def i_b9:IFunc:=⟨1,[.t 2],c_b9⟩
def a_b9:=zzy (zzz 7 [bki,bkj,bkk,bkl,bkm,r_b9_2,r_b9_1,r_b9_0]++[(8,[2])])
def r_cl_0:=rg [
oo 2 (.box 6 (.t 0)),oo 3 (.box 5 (.t 1)),by5 4 false] [2,3]
def r_cl_1:=rg [
bza 5 0 2,bzi 6 5] [2,3,6]
def r_cl_2:=rg [
by7 8 .eql 6 16,bzq 7 8] [2,3,6,7]
def r_cl_3:=rg [
by7 9 .eql 6 17,bzq 7 9] [2,3,6,7]
def r_cl_4:=rg [
by7 11 .eql 6 7,bzq 10 11] [3,6,10]
def r_cl_5:=rg [
by7 12 .eql 6 8,bzq 10 12] [3,10]
@[go_sem] def a09:Ops:=[
bza 13 3 3,bzi 14 13,by9 15 n_b9 [(.t 14)],bza 16 3 2,bzi 17 16,by8 18 .gtr 15 17]
def a1a:List (Nat×Nat):=[(0,3),(1,3),(2,3),(0,4),(1,4),(2,4)]
def r_cl_6:ICode:= .region a09 a1a [3,18]
@[go_sem] theorem r_cl_6_u:Gu X K s r_cl_6 a1a a09 [3,18]:=go_regionU' _ _ _ _
def r_cl_7:=rg [
by5 4 true] [4]
def r_cl_8:=rg [
bza 19 3 3,bzi 20 19,bzh 21 false 20,by7 22 .gtr 21 4096,bzq 4 22] [4]
def r_cl_9:=rg [
by5 4 false] [4]
def c_cl:ICode:=(.seq r_cl_0 (.seq (.seq r_cl_1 (.block 0 (.seq (.block 2 (.seq (.block 1 (.seq (.seq (.seq (.seq r_cl_2 (.cond (.t 7) .skip r_cl_3)) (.cond (.t 7) (.exit 1) .skip)) (.seq (.seq r_cl_4 (.cond (.t 10) .skip r_cl_5)) (.cond (.t 10) (.exit 2) .skip))) (.exit 0))) (.seq r_cl_6 (.cond (.t 18) (.seq r_cl_7 .ret) .skip)))) (.seq (.seq r_cl_8 .ret) (.exit 0))))) (.seq r_cl_9 .ret)))
def i_cl:IFunc:=⟨2,[.t 4],c_cl⟩
def a_cl:=zzy (zzz 9 [r_cl_9,r_cl_8,r_cl_7,.ret,r_cl_5,r_cl_4,r_cl_3,r_cl_2,r_cl_1,r_cl_0]++[(6,[3,18])])
def r_eh_0:=rg [
by5 4 false] [0,1]
def r_eh_1:=rg [
bzk 5 0,oo 6 (.bin .geq (.t 5) (ci (-1099511627776))),bzk 7 6,bzc 8 7 true 0,og 9 7 true (.bin .leq (.t 8) (ci 1099511627776)),bzn 10 7 9,bzk 11 10,bzc 12 11 true 1,og 13 11 true (.bin .geq (.t 12) (ci 0)),bzn 14 11 13,bzk 15 14,bzc 16 15 true 1,og 17 15 true (.bin .leq (.t 16) (ci 999999999)),bzn 18 15 17,bzq 4 18] [4]
def c_eh:ICode:=(.seq r_eh_0 (.seq r_eh_1 .ret))
def i_eh:IFunc:=⟨2,[.t 4],c_eh⟩
def a_eh:=zzy (zzz 1 [r_eh_1,r_eh_0])
def r_bn_0:=rg [
by6 2 0] [0]
def r_bn_1:=rg [
by6 3 1] [0,3]
def r_bn_2:=rg [
bzk 5 0,by9 6 n_ef [(.t 5)],bzq 4 6] [3,4]
def r_bn_3:=rg [
bzk 8 4,oo 9 (.bin .geq (.t 8) (.c (.int .u64 10000000000000000))),bzq 7 9] [3,4,7]
def r_bn_4:=rg [
bzk 11 4,oo 12 (.bin .geq (.t 11) (.c (.int .u64 100000000))),bzq 10 12] [3,4,10]
def r_bn_5:=rg [
bzk 13 3,by7 14 .add 13 8,bzq 3 14] [3,4]
def r_bn_6:=rg [
bzk 15 4,oo 16 (.bin .quo (.t 15) (.c (.int .u64 100000000))),bzq 4 16] [3,4]
def r_bn_7:=rg [
bzk 17 3,by7 18 .add 17 8,bzq 3 18] [3,4]
def r_bn_8:=rg [
bzk 19 4,oo 20 (.bin .quo (.t 19) (.c (.int .u64 100000000))),bzq 4 20] [3,4]
def bje:=rg [
bzk 21 4,oo 22 (.bin .geq (.t 21) (.c (.int .u64 10)))] [3,4,22]
def aor:=rg [
bzk 23 3,by7 24 .add 23 1,bzq 3 24] [3,4]
def aoq:=rg [
bzk 25 4,oo 26 (.bin .quo (.t 25) (.c (.int .u64 10))),bzq 4 26] [3,4]
def avs:ICode:=(.seq (.seq bje (.cond (.t 22) .skip (.exit 4))) (.block 5 (.seq aor aoq)))
def bwm:=bzd avs.eq_1
def aop:=rg [
bzk 27 3,bzq 2 27] [2]
def c_bn:ICode:=(.seq r_bn_0 (.seq r_bn_1 (.seq (.seq r_bn_2 (.block 0 (.seq (.block 3 (.seq (.block 2 (.seq (.block 1 (.seq (.seq (.seq r_bn_3 (.cond (.t 7) (.exit 1) .skip)) (.seq r_bn_4 (.cond (.t 10) (.exit 2) .skip))) (.exit 3))) (.seq r_bn_5 r_bn_6))) (.seq r_bn_7 r_bn_8))) (.seq (.block 4 (.loop avs)) (.exit 0))))) (.seq aop .ret))))
def i_bn:IFunc:=⟨1,[.t 2],c_bn⟩
def a_bn:=zzy (zzz 11 [aoq,aor,bje,r_bn_8,r_bn_7,r_bn_6,r_bn_5,r_bn_4,r_bn_3,r_bn_2,r_bn_1,r_bn_0]++[(12,[2])])
def r_d8_0:=rg [
by5 4 false] [0,1]
def r_d8_1:=rg [
bzk 5 0,bzk 6 1,by7 7 .sub 6 1,oo 8 (.bin .shl (ci (-1)) (.t 7)),by8 9 .geq 5 8,bzk 10 9,bzc 11 10 true 0,bzc 12 10 true 1,og 13 10 true (.bin .sub (.t 12) (ci 1)),og 14 10 true (.bin .shl (ci 1) (.t 13)),og 15 10 true (.bin .sub (.t 14) (ci 1)),og 16 10 true (.bin .leq (.t 11) (.t 15)),bzn 17 10 16,bzq 4 17] [4]
def c_d8:ICode:=(.seq r_d8_0 (.seq r_d8_1 .ret))
def i_d8:IFunc:=⟨2,[.t 4],c_d8⟩
def a_d8:=zzy (zzz 1 [r_d8_1,r_d8_0])
def r_a6_0:=rg [
oo 2 (.box 6 (.t 0)),oo 3 (.box 5 (.t 1)),by5 4 false] [2,3]
def r_a6_1:=rg [
bza 5 0 2,bzi 6 5] [2,3,6]
def r_a6_2:=rg [
by7 8 .eql 6 0,bzq 7 8] [2,3,6,7]
def r_a6_3:=rg [
bza 9 1 3,bzi 10 9,by7 11 .eql 10 0,bzk 12 11,og 13 12 false (.fieldA 1 (.t 3)),og 14 12 false (.load none (.t 13)),og 15 12 false (.bin .eql (.t 14) (ci 1)),bzo 16 12 15,bzq 4 16] [4]
def r_a6_4:=rg [
by7 18 .eql 6 1,bzq 17 18] [2,3,6,17]
def r_a6_5:=rg [
bza 19 1 3,bzi 20 19,by9 21 n_d8 [(.t 20),(ci 8)],bzq 4 21] [4]
def r_a6_6:=rg [
by7 23 .eql 6 2,bzq 22 23] [2,3,6,22]
def r_a6_7:=rg [
bza 24 1 3,bzi 25 24,by9 26 n_d8 [(.t 25),(ci 16)],bzq 4 26] [4]
def r_a6_8:=rg [
by7 28 .eql 6 3,bzq 27 28] [2,3,6,27]
def r_a6_9:=rg [
by7 29 .eql 6 15,bzq 27 29] [2,3,6,27]
def brx:=rg [
bza 30 1 3,bzi 31 30,by9 32 n_d8 [(.t 31),(ci 32)],bzq 4 32] [4]
def brw:=rg [
by7 34 .eql 6 4,bzq 33 34] [2,3,6,33]
def brv:=rg [
by5 4 true] [4]
def bru:=rg [
by7 36 .eql 6 14,bzq 35 36] [2,3,6,35]
@[go_sem] def ame:Ops:=[
bza 37 1 3,bzi 38 37,by9 39 n_bn [(.t 38)],bza 40 4 2,bzi 41 40,by8 42 .leq 39 41,bzq 4 42]
def amf:List (Nat×Nat):=[(0,3),(1,3),(2,3),(0,4),(1,4),(2,4)]
def brt:ICode:= .region ame amf [4]
@[go_sem] theorem r_a6_14_u:Gu X K s brt amf ame [4]:=go_regionU' _ _ _ _
def brs:=rg [
by7 44 .eql 6 9,bzq 43 44] [2,3,6,43]
def brr:=rg [
bza 45 1 3,bzi 46 45,bza 47 2 3,bzi 48 47,by9 49 n_eh [(.t 46),(.t 48)],bzq 4 49] [4]
def brq:=rg [
by7 51 .eql 6 13,bzq 50 51] [2,3,50]
def brp:=rg [
bza 52 1 3,bzi 53 52,by7 54 .geq 53 0,bzk 55 54,og 56 55 true (.fieldA 1 (.t 3)),og 57 55 true (.load none (.t 56)),og 58 55 true (.fieldA 2 (.t 2)),og 59 55 true (.load none (.t 58)),og 60 55 true (.len false (.t 59)),og 61 55 true (.bin .lss (.t 57) (.t 60)),bzn 62 55 61,bzq 4 62] [4]
def bro:=rg [
bza 63 1 3,bzi 64 63,by7 65 .eql 64 0,bzq 4 65] [4]
def c_a6:ICode:=(.seq r_a6_0 (.seq (.seq r_a6_1 (.block 0 (.seq r_a6_2 (.cond (.t 7) (.seq r_a6_3 .ret) (.seq r_a6_4 (.cond (.t 17) (.seq r_a6_5 .ret) (.seq r_a6_6 (.cond (.t 22) (.seq r_a6_7 .ret) (.seq (.seq r_a6_8 (.cond (.t 27) .skip r_a6_9)) (.cond (.t 27) (.seq brx .ret) (.seq brw (.cond (.t 33) (.seq brv .ret) (.seq bru (.cond (.t 35) (.seq brt .ret) (.seq brs (.cond (.t 43) (.seq brr .ret) (.seq brq (.cond (.t 50) (.seq brp .ret) .skip)))))))))))))))))) (.seq bro .ret)))
def i_a6:IFunc:=⟨2,[.t 4],c_a6⟩
def a_a6:=zzy (zzz 19 [bro,brp,brq,brr,brs,.ret,bru,brv,brw,brx,r_a6_9,r_a6_8,r_a6_7,r_a6_6,r_a6_5,r_a6_4,r_a6_3,r_a6_2,r_a6_1,r_a6_0]++[(14,[4])])
def r_cy_0:=rg [
by5 2 false] [0]
def r_cy_1:=rg [
bzk 3 0] [3]
def r_cy_2:=rg [
by7 5 .eql 3 10,bzq 4 5] [3,4]
def r_cy_3:=rg [
by7 6 .eql 3 11,bzq 4 6] [3,4]
def r_cy_4:=rg [
by7 8 .eql 3 12,bzq 7 8] [3,7]
def r_cy_5:=rg [
by7 9 .eql 3 13,bzq 7 9] [7]
def r_cy_6:=rg [
by5 2 false] [2]
def r_cy_7:=rg [
by5 2 true] [2]
def c_cy:ICode:=(.seq r_cy_0 (.seq (.seq r_cy_1 (.block 0 (.seq (.block 2 (.block 1 (.seq (.seq (.seq (.seq r_cy_2 (.cond (.t 4) .skip r_cy_3)) (.cond (.t 4) (.exit 1) .skip)) (.seq (.seq r_cy_4 (.cond (.t 7) .skip r_cy_5)) (.cond (.t 7) (.exit 2) .skip))) (.exit 0)))) (.seq (.seq r_cy_6 .ret) (.exit 0))))) (.seq r_cy_7 .ret)))
def i_cy:IFunc:=⟨1,[.t 2],c_cy⟩
def a_cy:=zzy (zzz 7 [r_cy_7,r_cy_6,r_cy_5,r_cy_4,r_cy_3,r_cy_2,r_cy_1,r_cy_0])
def r_cz_0:=rg [
by5 2 false] [0]
def r_cz_1:=rg [
bzk 3 0] [3]
def r_cz_2:=rg [
by7 5 .eql 3 7,bzq 4 5] [3,4]
def r_cz_3:=rg [
by7 6 .eql 3 8,bzq 4 6] [3,4]
def r_cz_4:=rg [
by7 8 .eql 3 16,bzq 7 8] [3,7]
def r_cz_5:=rg [
by7 9 .eql 3 17,bzq 7 9] [7]
def r_cz_6:=rg [
by5 2 true] [2]
def r_cz_7:=rg [
by5 2 false] [2]
def c_cz:ICode:=(.seq r_cz_0 (.seq (.seq r_cz_1 (.block 0 (.seq (.block 2 (.block 1 (.seq (.seq (.seq (.seq r_cz_2 (.cond (.t 4) .skip r_cz_3)) (.cond (.t 4) (.exit 1) .skip)) (.seq (.seq r_cz_4 (.cond (.t 7) .skip r_cz_5)) (.cond (.t 7) (.exit 2) .skip))) (.exit 0)))) (.seq (.seq r_cz_6 .ret) (.exit 0))))) (.seq r_cz_7 .ret)))
def i_cz:IFunc:=⟨1,[.t 2],c_cz⟩
def a_cz:=zzy (zzz 7 [r_cz_7,r_cz_6,r_cz_5,r_cz_4,r_cz_3,r_cz_2,r_cz_1,r_cz_0])
def r_dv_0:=rg [
oo 2 (.box 6 (.t 0)),oo 3 (.box 5 (.t 1)),by5 4 false] [2,3]
def r_dv_1:=rg [
bza 5 0 3,bzi 6 5] [2,3,6]
def r_dv_2:=rg [
bza 7 1 3,bzi 8 7,by7 9 .eql 8 0,bzk 10 9,og 11 10 true (.fieldA 2 (.t 3)),og 12 10 true (.load none (.t 11)),og 13 10 true (.bin .eql (.t 12) (ci 0)),bzn 14 10 13,bzk 15 14,og 16 15 true (.fieldA 3 (.t 3)),og 17 15 true (.load none (.t 16)),og 18 15 true (.len false (.t 17)),og 19 15 true (.bin .eql (.t 18) (ci 0)),bzn 20 15 19,bzk 21 20,og 22 21 true (.fieldA 4 (.t 3)),og 23 21 true (.load none (.t 22)),og 24 21 true (.len false (.t 23)),og 25 21 true (.bin .eql (.t 24) (ci 0)),bzn 26 21 25,bzq 4 26] [4]
def r_dv_3:=rg [
bza 27 2 3,bzi 28 27,by7 29 .eql 28 0,bzk 30 29,og 31 30 false (.fieldA 0 (.t 2)),og 32 30 false (.load none (.t 31)),og 33 30 false (.bin .eql (.t 32) (ci 9)),bzo 34 30 33,bzk 35 34,og 36 35 true (.fieldA 3 (.t 3)),og 37 35 true (.load none (.t 36)),og 38 35 true (.len false (.t 37)),og 39 35 true (.bin .eql (.t 38) (ci 0)),bzc 40 35 true 39,og 41 40 false (.fieldA 0 (.t 2)),og 42 40 false (.load none (.t 41)),og 43 40 false (.call false n_cz [(.t 42)]),og 44 35 true (.pick (.t 40) (.c (.bool true)) (.t 43)),bzn 45 35 44,bzk 46 45,og 47 46 true (.fieldA 4 (.t 3)),og 48 46 true (.load none (.t 47)),og 49 46 true (.len false (.t 48)),og 50 46 true (.bin .eql (.t 49) (ci 0)),bzc 51 46 true 50,og 52 51 false (.fieldA 0 (.t 2)),og 53 51 false (.load none (.t 52)),og 54 51 false (.call false n_cy [(.t 53)]),og 55 51 false (.un .not (.t 54)),og 56 46 true (.pick (.t 51) (.c (.bool true)) (.t 55)),bzn 57 46 56,bzq 4 57] [4]
def c_dv:ICode:=(.seq r_dv_0 (.seq r_dv_1 (.cond (.t 6) (.seq r_dv_2 .ret) (.seq r_dv_3 .ret))))
def i_dv:IFunc:=⟨2,[.t 4],c_dv⟩
def a_dv:=zzy (zzz 3 [r_dv_3,r_dv_2,r_dv_1,r_dv_0])
def r_ax_0:=rg [
oo 2 (.box 6 (.t 0)),oo 3 (.box 5 (.t 1)),by6 4 0] [2,3]
def r_ax_1:=rg [
bzj 12 6 2,bzj 13 5 3,by9 14 n_dv [(.t 12),(.t 13)],bzm 15 14,bzk 16 15,og 17 16 false (.fieldA 0 (.t 3)),og 18 16 false (.load none (.t 17)),og 19 16 false (.un .not (.t 18)),bzc 20 16 false 19,og 21 20 true (.load (some 6) (.t 2)),og 22 20 true (.load (some 5) (.t 3)),og 23 20 true (.call false n_a6 [(.t 21),(.t 22)]),og 24 20 true (.un .not (.t 23)),og 25 16 false (.pick (.t 20) (.t 24) (.c (.bool false))),bzo 26 16 25,bzq 11 26] [2,3,11]
def r_ax_2:=rg [
by6 4 1] [4]
def r_ax_3:=rg [
bza 28 0 3,bzi 29 28,bzq 27 29] [2,3,27]
def r_ax_4:=rg [
by6 4 0] [4]
def r_ax_5:=rg [
bzj 31 6 2,bzj 32 5 3,by9 33 n_cl [(.t 31),(.t 32)],bzq 30 33] [2,3,30]
def r_ax_6:=rg [
by6 4 4] [4]
def r_ax_7:=rg [
bzj 34 6 2,bzj 35 5 3,by9 36 n_bo [(.t 34),(.t 35)],bzq 5 36] [2,3,5]
def r_ax_8:=rg [
bzk 37 5,by7 38 .neq 37 0] [2,3,5,38]
def r_ax_9:=rg [
bzk 39 5,bzq 4 39] [4]
def bkz:=rg [
bza 40 4 3,bzi 41 40,bzh 42 false 41,oo 43 (.mv (ci 0))] [2,3,41,42,43]
def ap0:=rg [
by8 44 .lss 43 42] [2,3,41,42,43,44]
def apz:=rg [
bzk 45 43,bzf 46 5 41 43,bzj 47 5 46,oo 7 (.alloc [(.bool false),(.int .i64 0),(.int .i64 0),.nilS,.nilS]),bzq 6 45,bzp 5 7 47] [2,3,6,7,41,42,43]
def apy:=rg [
bzj 49 6 2,bzj 50 5 3,bzk 51 6,by9 52 n_cc [(.t 49),(.t 50),(.t 51)],bzk 48 52,bzr 53 48 0,bzr 54 48 1,oo 8 (.alloc [(.int .i64 0),.nilS,.nilS,(.int .i64 0),(.int .i64 0),(.int .i64 0)]),bzp 6 8 53,bzq 9 54] [2,3,6,7,8,9,41,42,43]
def apx:=rg [
bzk 55 9,bzm 56 55,bzk 57 56,og 58 57 false (.fieldA 0 (.t 2)),og 59 57 false (.load none (.t 58)),og 60 57 false (.bin .eql (.t 59) (ci 11)),bzc 61 57 false 60,bzc 62 61 true 6,og 63 61 true (.bin .rem (.t 62) (ci 2)),og 64 61 true (.bin .eql (.t 63) (ci 0)),og 65 57 false (.pick (.t 61) (.t 64) (.c (.bool false))),bzc 66 57 false 65,og 67 66 true (.fieldA 0 (.t 7)),og 68 66 true (.load none (.t 67)),og 69 57 false (.pick (.t 66) (.t 68) (.c (.bool false))),bzo 70 57 69] [2,3,7,8,41,42,43,70]
def apw:=rg [
by6 4 1] [4]
def apv:=rg [
bzj 71 6 8,bzj 72 5 7,by9 73 n_ax [(.t 71),(.t 72)],bzq 10 73] [2,3,10,41,42,43]
def apu:=rg [
bzk 74 10,by7 75 .neq 74 0] [2,3,10,41,42,43,75]
def apt:=rg [
bzk 76 10,bzq 4 76] [4]
def aps:=rg [
by7 77 .add 43 1,bzk 43 77] [2,3,41,42,43]
def avx:ICode:=(.seq ap0 (.seq (.cond (.t 44) .skip (.exit 1)) (.seq (.block 2 (.seq (.seq (.free 7) apz) (.seq (.seq (.free 8) apy) (.seq (.seq apx (.cond (.t 70) (.seq apw .ret) .skip)) (.seq apv (.seq apu (.cond (.t 75) (.seq apt .ret) .skip))))))) aps)))
def bwn:=bzd avx.eq_1
def apr:=rg [
by6 4 0] [4]
def c_ax:ICode:=(.seq r_ax_0 (.seq (.block 0 (.seq r_ax_1 (.cond (.t 11) (.seq r_ax_2 .ret) (.seq r_ax_3 (.cond (.t 27) (.seq r_ax_4 .ret) (.seq r_ax_5 (.cond (.t 30) (.seq r_ax_6 .ret) .skip))))))) (.seq (.seq r_ax_7 (.seq r_ax_8 (.cond (.t 38) (.seq r_ax_9 .ret) .skip))) (.seq (.seq bkz (.block 1 (.loop avx))) (.seq apr .ret)))))
def i_ax:IFunc:=⟨2,[.t 4],c_ax⟩
def a_ax:Advice:=⟨[],zzz 19 [aps,apt,apu,apv,apw,apx,apy,apz,ap0,bkz,r_ax_9,r_ax_8,r_ax_7,r_ax_6,r_ax_5,r_ax_4,r_ax_3,r_ax_2,r_ax_1,r_ax_0]++[(20,[4])],[],[(12,[7]),(13,[8])],[],[]⟩
def r_ez_0:=rg [
oo 1 (.box 8 (.t 0)),oo 2 (.alloc [(.int .i64 0),.nilS,.nilS,(.int .i64 0),(.int .i64 0),(.int .i64 0)])] [1,2]
def r_ez_1:=rg [
bza 3 0 1,bzi 4 3,bza 5 3 1,bzi 6 5,bza 7 4 1,bzi 8 7,bza 9 5 1,bzi 10 9,oo 11 (.build [(.int .i64 0),.nilS,.nilS,(.int .i64 0),(.int .i64 0),(.int .i64 0)] [(0,1,(.t 4)),(3,1,(.t 6)),(4,1,(.t 8)),(5,1,(.t 10))]),bzp 6 2 11] [2]
def c_ez:ICode:=(.seq r_ez_0 (.seq r_ez_1 .ret))
def i_ez:IFunc:=⟨1,[.cell 2 (some 6)],c_ez⟩
def a_ez:=zzy (zzz 1 [r_ez_1,r_ez_0])
def r_cf_0:=rg [
by6 6 0] [0,1,2]
def r_cf_1:=rg [
bzk 10 0,bzl 11 10,bza 12 8 11,bzi 13 12,bzk 14 1,by9 15 n_ey [(.t 13),(.t 14)],bzk 9 15,bzr 16 9 0,bzr 17 9 1,bzq 7 16,bzq 8 17] [0,2,7,8]
def r_cf_2:=rg [
bzk 18 0,bzk 19 0,bzl 20 19,bza 21 9 20,bzi 22 21,bzk 23 22,bzc 24 23 true 8,bzc 25 23 true 2,og 26 23 true (.eqn false .bool (.t 24) (.t 25)),bzn 27 23 26,bzk 28 27,bzc 29 28 true 7,og 30 28 true (.bin .leq (.t 29) (.c (.int .u64 4294967295))),bzn 31 28 30,bzl 32 18,bza 33 9 32,bzp 1 33 31] [7]
def r_cf_3:=rg [
bzk 34 7,oo 35 (.cvInt .i64 (.t 34)),bzq 6 35] [6]
def c_cf:ICode:=(.seq r_cf_0 (.seq r_cf_1 (.seq r_cf_2 (.seq r_cf_3 .ret))))
def i_cf:IFunc:=⟨3,[.t 6],c_cf⟩
def a_cf:=zzy (zzz 3 [r_cf_3,r_cf_2,r_cf_1,r_cf_0])
def r_dz_0:=rg [
by6 4 0,by5 5 false] [0,1]
def r_dz_1:=rg [
bzk 7 0,bzk 8 1,by8 9 .add 7 8,bzq 6 9] [0,1,6]
def r_dz_2:=rg [
bzk 10 6,bzk 11 0,by8 12 .gtr 10 11,bzk 13 1,by7 14 .gtr 13 0,oo 15 (.eqn true .bool (.t 12) (.t 14)),bzk 16 15,bzc 17 16 true 1,og 18 16 true (.bin .neq (.t 17) (ci 0)),bzn 19 16 18] [6,19]
def r_dz_3:=rg [
by6 4 0,by5 5 false] [4,5]
def r_dz_4:=rg [
bzk 20 6,bzq 4 20,by5 5 true] [4,5]
def c_dz:ICode:=(.seq r_dz_0 (.seq r_dz_1 (.seq r_dz_2 (.cond (.t 19) (.seq r_dz_3 .ret) (.seq r_dz_4 .ret)))))
def i_dz:IFunc:=⟨2,[.t 4,.t 5],c_dz⟩
def a_dz:=zzy (zzz 4 [r_dz_4,r_dz_3,r_dz_2,r_dz_1,r_dz_0])
def r_ed_0:=rg [
oo 2 (.asg (.c (.int .u64 0)))] [0]
def r_ed_1:=rg [
bzk 3 0,by7 4 .lss 3 0] [0,4]
def r_ed_2:=rg [
bzk 5 0,oo 6 (.cvInt .u64 (.t 5)),oo 7 (.un .neg (.t 6)),bzq 2 7] [2]
def r_ed_3:=rg [
bzk 8 0,oo 9 (.cvInt .u64 (.t 8)),bzq 2 9] [2]
def c_ed:ICode:=(.seq r_ed_0 (.seq r_ed_1 (.cond (.t 4) (.seq r_ed_2 .ret) (.seq r_ed_3 .ret))))
def i_ed:IFunc:=⟨1,[.t 2],c_ed⟩
def a_ed:=zzy (zzz 3 [r_ed_3,r_ed_2,r_ed_1,r_ed_0])
def r_ct_0:=rg [
by6 4 0,by5 5 false] [0,1]
def r_ct_1:=rg [
bzk 9 0,by7 10 .eql 9 0,bzk 11 10,bzc 12 11 false 1,og 13 11 false (.bin .eql (.t 12) (ci 0)),bzo 14 11 13] [0,1,14]
def r_ct_2:=rg [
by6 4 0,by5 5 true] [4,5]
def r_ct_3:=rg [
bzk 16 0,by9 17 n_ed [(.t 16)],bzk 18 1,by9 19 n_ed [(.t 18)],by9 20 n_gc [(.t 17),(.t 19)],bzk 15 20,bzr 21 15 0,bzr 22 15 1,bzq 6 21,bzq 7 22] [0,1,6,7]
def r_ct_4:=rg [
bzk 23 0,by7 24 .lss 23 0,bzk 25 1,by7 26 .lss 25 0,oo 27 (.eqn true .bool (.t 24) (.t 26)),bzq 8 27] [6,7,8]
def r_ct_5:=rg [
bzk 29 6,oo 30 (.bin .neq (.t 29) (.c (.int .u64 0))),bzk 31 30,bzc 32 31 false 7,og 33 31 false (.bin .gtr (.t 32) (.c (.int .u64 9223372036854775808))),bzo 34 31 33,bzk 35 34,bzc 36 35 false 7,og 37 35 false (.bin .eql (.t 36) (.c (.int .u64 9223372036854775808))),bzc 38 35 false 37,bzc 39 38 true 8,og 40 38 true (.un .not (.t 39)),og 41 35 false (.pick (.t 38) (.t 40) (.c (.bool false))),bzo 42 35 41,bzq 28 42] [7,8,28]
def r_ct_6:=rg [
by6 4 0,by5 5 false] [4,5]
def r_ct_7:=rg [
bzk 44 8,bzq 43 44] [7,43]
def r_ct_8:=rg [
bzk 45 7,oo 46 (.cvInt .i64 (.t 45)),oo 47 (.un .neg (.t 46)),bzq 4 47,by5 5 true] [4,5]
def r_ct_9:=rg [
bzk 48 7,oo 49 (.cvInt .i64 (.t 48)),bzq 4 49,by5 5 true] [4,5]
def c_ct:ICode:=(.seq r_ct_0 (.seq r_ct_1 (.cond (.t 14) (.seq r_ct_2 .ret) (.seq r_ct_3 (.seq r_ct_4 (.seq (.block 0 (.seq r_ct_5 (.cond (.t 28) (.seq r_ct_6 .ret) (.seq r_ct_7 (.cond (.t 43) (.seq r_ct_8 .ret) .skip))))) (.seq r_ct_9 .ret)))))))
def i_ct:IFunc:=⟨2,[.t 4,.t 5],c_ct⟩
def a_ct:=zzy (zzz 9 [r_ct_9,r_ct_8,r_ct_7,r_ct_6,r_ct_5,r_ct_4,r_ct_3,r_ct_2,r_ct_1,r_ct_0])
def bwo:=bzb r_eu_0.eq_1 r_eu_1.eq_1 r_b0_0.eq_1 r_b0_1.eq_1 r_b0_3.eq_1 r_br_0.eq_1 bi3.eq_1 bi2.eq_1
def bwp:=bzb bi1.eq_1 bi0.eq_1 r_dy_0.eq_1 r_dy_1.eq_1 r_ce_0.eq_1 r_ce_1.eq_1 r_ce_3.eq_1 r_ae_0.eq_1
def bwq:=bzb r_ae_1.eq_1 r_ae_2.eq_1 r_ae_3.eq_1 r_ae_4.eq_1 r_ae_5.eq_1 r_ae_6.eq_1 r_ae_8.eq_1 bqj.eq_1
def bwr:=bzb bqi.eq_1 bqh.eq_1 bqe.eq_1 bqc.eq_1 bqb.eq_1 bqa.eq_1 bp8.eq_1 bp7.eq_1
def bws:=bzb bp6.eq_1 bp3.eq_1 bp1.eq_1 bp0.eq_1 bpz.eq_1 bpw.eq_1 bpv.eq_1 bpu.eq_1
def bwt:=bzb bps.eq_1 bpr.eq_1 bpq.eq_1 bpl.eq_1 bpj.eq_1 bpi.eq_1 bph.eq_1 bpg.eq_1
def bwu:=bzb r_a8_0.eq_1 r_a8_1.eq_1 r_a8_2.eq_1 bri.eq_1 brg.eq_1 brf.eq_1 r_ba_0.eq_1 r_ba_1.eq_1
def bwv:=bzb r_ba_2.eq_1 r_ba_3.eq_1 bkh.eq_1 bkf.eq_1 bke.eq_1 bkd.eq_1 r_du_0.eq_1 r_du_1.eq_1
def bww:=bzb r_dx_0.eq_1 r_dx_1.eq_1 r_bv_0.eq_1 r_bv_1.eq_1 r_bv_2.eq_1 r_bv_3.eq_1 r_bv_4.eq_1 r_bv_5.eq_1
def bwx:=bzb r_bv_6.eq_1 r_bv_7.eq_1 r_bv_8.eq_1 r_bl_0.eq_1 r_bl_1.eq_1 r_bl_2.eq_1 bji.eq_1 bjh.eq_1
def bwy:=bzb bjg.eq_1 bjf.eq_1 r_bl_8.eq_1 r_dt_0.eq_1 r_dt_1.eq_1 r_dm_0.eq_1 r_dm_1.eq_1 r_bt_0.eq_1
def bwz:=bzb r_bt_1.eq_1 biz.eq_1 biy.eq_1 bix.eq_1 biw.eq_1 r_cx_0.eq_1 r_cx_1.eq_1 r_cx_2.eq_1
def bw0:=bzb r_cx_3.eq_1 r_db_0.eq_1 r_db_1.eq_1 r_am_0.eq_1 r_am_1.eq_1 r_am_2.eq_1 r_am_3.eq_1 r_am_4.eq_1
def bw1:=bzb r_am_5.eq_1 r_am_6.eq_1 r_am_7.eq_1 r_am_8.eq_1 r_am_9.eq_1 bmu.eq_1 bmt.eq_1 bms.eq_1
def bw2:=bzb bmr.eq_1 bmq.eq_1 bmp.eq_1 bmn.eq_1 bmm.eq_1 bml.eq_1 bmk.eq_1 bmj.eq_1
def bw3:=bzb r_ah_0.eq_1 r_ah_1.eq_1 r_ah_2.eq_1 r_ah_3.eq_1 r_ah_4.eq_1 r_ah_5.eq_1 r_ah_6.eq_1 r_ah_8.eq_1
def bw4:=bzb r_ah_9.eq_1 bn8.eq_1 bn7.eq_1 bn6.eq_1 bn5.eq_1 bn4.eq_1 bn3.eq_1 bn2.eq_1
def bw5:=bzb bn1.eq_1 bn0.eq_1 bnz.eq_1 bny.eq_1 bnx.eq_1 bnw.eq_1 bnv.eq_1 bnu.eq_1
def bw6:=bzb bnt.eq_1 arl.eq_1 ark.eq_1 arj.eq_1 arh.eq_1 arf.eq_1 ard.eq_1 arc.eq_1
def bw7:=bzb r_c5_0.eq_1 r_c5_1.eq_1 r_c5_2.eq_1 r_c5_3.eq_1 r_c6_0.eq_1 r_c6_1.eq_1 r_c6_2.eq_1 r_c6_3.eq_1
def bw8:=bzb r_bu_0.eq_1 r_bu_1.eq_1 r_bu_2.eq_1 r_bu_3.eq_1 r_bu_4.eq_1 r_bu_5.eq_1 r_bu_6.eq_1 r_bu_7.eq_1
def bw9:=bzb r_bu_8.eq_1 r_ac_0.eq_1 r_ac_1.eq_1 r_ac_2.eq_1 r_ac_3.eq_1 r_ac_4.eq_1 bqo.eq_1 bqn.eq_1
def bxa:=bzb bqm.eq_1 bql.eq_1 bqk.eq_1 asc.eq_1 asb.eq_1 asa.eq_1 ar9.eq_1 ar8.eq_1
def bxb:=bzb ar7.eq_1 ar6.eq_1 ar5.eq_1 ar4.eq_1 ar3.eq_1 xd.eq_1 xc.eq_1 xb.eq_1
def bxc:=bzb xa.eq_1 ar2.eq_1 ar1.eq_1 ar0.eq_1 arz.eq_1 ary.eq_1 w9.eq_1 w8.eq_1
def bxd:=bzb w7.eq_1 w6.eq_1 wz.eq_1 wy.eq_1 wx.eq_1 ww.eq_1 po.eq_1 r_ao_0.eq_1
def bxe:=bzb r_ao_1.eq_1 r_ao_2.eq_1 bmi.eq_1 bmh.eq_1 bmg.eq_1 bmf.eq_1 bme.eq_1 bmd.eq_1
def bxf:=bzb bmc.eq_1 aqo.eq_1 aqn.eq_1 aqm.eq_1 aql.eq_1 wu.eq_1 ws.eq_1 r_cw_0.eq_1
def bxg:=bzb r_cw_1.eq_1 r_cw_2.eq_1 r_cw_3.eq_1 r_cw_4.eq_1 r_df_0.eq_1 r_df_1.eq_1 r_df_2.eq_1 r_cu_0.eq_1
def bxh:=bzb r_cu_1.eq_1 r_cu_2.eq_1 r_cu_3.eq_1 r_bz_0.eq_1 r_bz_1.eq_1 r_bz_2.eq_1 r_bz_3.eq_1 r_bz_4.eq_1
def bxi:=bzb r_bz_5.eq_1 r_dh_0.eq_1 r_dh_1.eq_1 r_di_0.eq_1 r_di_1.eq_1 r_dq_0.eq_1 r_dq_1.eq_1 r_bg_0.eq_1
def bxj:=bzb r_bg_1.eq_1 r_bg_2.eq_1 r_bg_3.eq_1 bjv.eq_1 bju.eq_1 bjt.eq_1 bjs.eq_1 bjr.eq_1
def bxk:=bzb ao4.eq_1 bre.eq_1 brd.eq_1 brc.eq_1 brb.eq_1 bra.eq_1 bq9.eq_1 bq8.eq_1
def bxl:=bzb bq7.eq_1 bq6.eq_1 bq5.eq_1 auu.eq_1 aut.eq_1 aus.eq_1 aur.eq_1 auq.eq_1
def bxm:=bzb aup.eq_1 auo.eq_1 aun.eq_1 aum.eq_1 aul.eq_1 auk.eq_1 auj.eq_1 aui.eq_1
def bxn:=bzb auh.eq_1 aug.eq_1 auf.eq_1 aue.eq_1 aud.eq_1 auc.eq_1 aub.eq_1 aua.eq_1
def bxo:=bzb at9.eq_1 at8.eq_1 at7.eq_1 at6.eq_1 at5.eq_1 at4.eq_1 at3.eq_1 at2.eq_1
def bxp:=bzb at1.eq_1 at0.eq_1 atz.eq_1 aty.eq_1 atx.eq_1 atw.eq_1 atv.eq_1 atu.eq_1
def bxq:=bzb att.eq_1 ats.eq_1 atr.eq_1 atq.eq_1 atp.eq_1 ato.eq_1 atn.eq_1 atm.eq_1
def bxr:=bzb atl.eq_1 atk.eq_1 atj.eq_1 ati.eq_1 ath.eq_1 atg.eq_1 atf.eq_1 ate.eq_1
def bxs:=bzb atd.eq_1 atc.eq_1 atb.eq_1 ata.eq_1 as9.eq_1 as8.eq_1 as7.eq_1 as6.eq_1
def bxt:=bzb as5.eq_1 as4.eq_1 as3.eq_1 as2.eq_1 as1.eq_1 as0.eq_1 asz.eq_1 asy.eq_1
def bxu:=bzb asx.eq_1 asw.eq_1 asv.eq_1 asu.eq_1 ast.eq_1 ass.eq_1 asr.eq_1 asq.eq_1
def bxv:=bzb asp.eq_1 aso.eq_1 r_bb_0.eq_1 r_bb_1.eq_1 r_bb_2.eq_1 r_bb_3.eq_1 bkc.eq_1 bkb.eq_1
def bxw:=bzb bka.eq_1 bj9.eq_1 bj8.eq_1 ao5.eq_1 r_bw_0.eq_1 r_bw_1.eq_1 r_bw_2.eq_1 biv.eq_1
def bxx:=bzb biu.eq_1 bis.eq_1 bir.eq_1 biq.eq_1 r_az_0.eq_1 r_az_1.eq_1 r_az_3.eq_1 r_az_4.eq_1
def bxy:=bzb bkw.eq_1 bkv.eq_1 bku.eq_1 bkt.eq_1 bks.eq_1 ape.eq_1 apd.eq_1 apc.eq_1
def bxz:=bzb apb.eq_1 apa.eq_1 r_af_0.eq_1 r_af_1.eq_1 r_af_2.eq_1 r_af_3.eq_1 r_af_4.eq_1 r_af_5.eq_1
def bx0:=bzb r_af_6.eq_1 r_af_7.eq_1 r_af_8.eq_1 r_af_9.eq_1 bpf.eq_1 bpe.eq_1 bpd.eq_1 bpc.eq_1
def bx1:=bzb bpb.eq_1 bpa.eq_1 bo9.eq_1 bo8.eq_1 bo7.eq_1 bo6.eq_1 bo5.eq_1 bo4.eq_1
def bx2:=bzb bo3.eq_1 bo2.eq_1 bo1.eq_1 bo0.eq_1 boz.eq_1 boy.eq_1 bow.eq_1 bov.eq_1
def bx3:=bzb bou.eq_1 bot.eq_1 bos.eq_1 arx.eq_1 arv.eq_1 wv.eq_1 r_aw_0.eq_1 r_aw_1.eq_1
def bx4:=bzb r_aw_2.eq_1 r_aw_3.eq_1 r_aw_4.eq_1 bk4.eq_1 bk3.eq_1 bk2.eq_1 bk1.eq_1 bk0.eq_1
def bx5:=bzb ap4.eq_1 ap3.eq_1 ap2.eq_1 ap1.eq_1 r_ai_0.eq_1 r_ai_1.eq_1 r_ai_2.eq_1 r_ai_3.eq_1
def bx6:=bzb r_ai_4.eq_1 r_ai_5.eq_1 r_ai_7.eq_1 r_ai_8.eq_1 bns.eq_1 arb.eq_1 ara.eq_1 aq9.eq_1
def bx7:=bzb aq8.eq_1 aq7.eq_1 aq6.eq_1 aq5.eq_1 aq4.eq_1 aq3.eq_1 aq2.eq_1 aq1.eq_1
def bx8:=bzb r5.eq_1 r_ag_0.eq_1 r_ag_1.eq_1 r_ag_2.eq_1 r_ag_3.eq_1 r_ag_4.eq_1 r_ag_5.eq_1 r_ag_6.eq_1
def bx9:=bzb r_ag_7.eq_1 r_ag_8.eq_1 r_ag_9.eq_1 boq.eq_1 bop.eq_1 boo.eq_1 bon.eq_1 bom.eq_1
def bya:=bzb bol.eq_1 bok.eq_1 boj.eq_1 boi.eq_1 aru.eq_1 art.eq_1 ars.eq_1 arr.eq_1
def byb:=bzb arq.eq_1 aro.eq_1 arn.eq_1 arm.eq_1 boh.eq_1 bog.eq_1 bof.eq_1 boe.eq_1
def byc:=bzb bod.eq_1 boc.eq_1 bob.eq_1 boa.eq_1 bn9.eq_1 r_au_0.eq_1 r_au_1.eq_1 r_au_2.eq_1
def byd:=bzb r_au_3.eq_1 r_au_4.eq_1 r_au_5.eq_1 r_au_6.eq_1 r_au_7.eq_1 blb.eq_1 bla.eq_1 aqf.eq_1
def bye:=bzb aqe.eq_1 aqd.eq_1 aqc.eq_1 aqb.eq_1 r_da_0.eq_1 r_da_1.eq_1 r_da_2.eq_1 r_av_0.eq_1
def byf:=bzb r_av_1.eq_1 r_av_2.eq_1 r_av_3.eq_1 r_av_4.eq_1 bk8.eq_1 bk7.eq_1 bk6.eq_1 bk5.eq_1
def byg:=bzb bk9.eq_1 aqa.eq_1 ap9.eq_1 ap8.eq_1 ap7.eq_1 ap6.eq_1 ap5.eq_1 r_dj_0.eq_1
def byh:=bzb r_dj_1.eq_1 r_dj_2.eq_1 r_cc_0.eq_1 r_cc_1.eq_1 r_cc_2.eq_1 r_cc_3.eq_1 r_cc_4.eq_1 r_cc_5.eq_1
def byi:=bzb r_cc_6.eq_1 r_cc_7.eq_1 r_cc_8.eq_1 r_cc_9.eq_1 bip.eq_1 bio.eq_1 bim.eq_1 r_bo_0.eq_1
def byj:=bzb r_bo_1.eq_1 r_bo_2.eq_1 r_bo_3.eq_1 r_bo_4.eq_1 r_bo_5.eq_1 r_bo_6.eq_1 r_bo_7.eq_1 r_bo_8.eq_1
def byk:=bzb r_bo_9.eq_1 bjd.eq_1 bjc.eq_1 bjb.eq_1 bja.eq_1 bi9.eq_1 r_b9_0.eq_1 r_b9_1.eq_1
def byl:=bzb r_b9_2.eq_1 bkm.eq_1 bkl.eq_1 bkk.eq_1 bkj.eq_1 bki.eq_1 r_b9_9.eq_1 r_cl_0.eq_1
def bym:=bzb r_cl_1.eq_1 r_cl_2.eq_1 r_cl_3.eq_1 r_cl_4.eq_1 r_cl_5.eq_1 r_cl_7.eq_1 r_cl_8.eq_1 r_cl_9.eq_1
def byn:=bzb r_eh_0.eq_1 r_eh_1.eq_1 r_bn_0.eq_1 r_bn_1.eq_1 r_bn_2.eq_1 r_bn_3.eq_1 r_bn_4.eq_1 r_bn_5.eq_1
def byo:=bzb r_bn_6.eq_1 r_bn_7.eq_1 r_bn_8.eq_1 bje.eq_1 aor.eq_1 aoq.eq_1 aop.eq_1 r_d8_0.eq_1
def byp:=bzb r_d8_1.eq_1 r_a6_0.eq_1 r_a6_1.eq_1 r_a6_2.eq_1 r_a6_3.eq_1 r_a6_4.eq_1 r_a6_5.eq_1 r_a6_6.eq_1
def byq:=bzb r_a6_7.eq_1 r_a6_8.eq_1 r_a6_9.eq_1 brx.eq_1 brw.eq_1 brv.eq_1 bru.eq_1 brs.eq_1
def byr:=bzb brr.eq_1 brq.eq_1 brp.eq_1 bro.eq_1 r_cy_0.eq_1 r_cy_1.eq_1 r_cy_2.eq_1 r_cy_3.eq_1
def bys:=bzb r_cy_4.eq_1 r_cy_5.eq_1 r_cy_6.eq_1 r_cy_7.eq_1 r_cz_0.eq_1 r_cz_1.eq_1 r_cz_2.eq_1 r_cz_3.eq_1
def byt:=bzb r_cz_4.eq_1 r_cz_5.eq_1 r_cz_6.eq_1 r_cz_7.eq_1 r_dv_0.eq_1 r_dv_1.eq_1 r_dv_2.eq_1 r_dv_3.eq_1
def byu:=bzb r_ax_0.eq_1 r_ax_1.eq_1 r_ax_2.eq_1 r_ax_3.eq_1 r_ax_4.eq_1 r_ax_5.eq_1 r_ax_6.eq_1 r_ax_7.eq_1
def byv:=bzb r_ax_8.eq_1 r_ax_9.eq_1 bkz.eq_1 ap0.eq_1 apz.eq_1 apy.eq_1 apx.eq_1 apw.eq_1
def byw:=bzb apv.eq_1 apu.eq_1 apt.eq_1 aps.eq_1 apr.eq_1 r_ez_0.eq_1 r_ez_1.eq_1 r_cf_0.eq_1
def byx:=bzb r_cf_1.eq_1 r_cf_2.eq_1 r_cf_3.eq_1 r_dz_0.eq_1 r_dz_1.eq_1 r_dz_2.eq_1 r_dz_3.eq_1 r_dz_4.eq_1
def byy:=bzb r_ed_0.eq_1 r_ed_1.eq_1 r_ed_2.eq_1 r_ed_3.eq_1 r_ct_0.eq_1 r_ct_1.eq_1 r_ct_2.eq_1 r_ct_3.eq_1
def byz:=bze r_ct_4.eq_1
def by0:=bze r_ct_5.eq_1
def by1:=bze r_ct_6.eq_1
def by2:=bze r_ct_7.eq_1
def by3:=bze r_ct_8.eq_1
def by4:=bze r_ct_9.eq_1
attribute [go_sem] bvz bv0 bv1 bv2 bv3 bv4 bv5 bv6 bv7 bv8 bv9 bwa bwb bwc bwd bwe bwf bwg bwh bwi bwj bwk bwl bwm bwn bwo bwp bwq bwr bws bwt bwu bwv bww bwx bwy bwz bw0 bw1 bw2 bw3 bw4 bw5 bw6 bw7 bw8 bw9 bxa bxb bxc bxd bxe bxf bxg bxh bxi bxj bxk bxl bxm bxn bxo bxp bxq bxr bxs bxt bxu bxv bxw bxx bxy bxz bx0 bx1 bx2 bx3 bx4 bx5 bx6 bx7 bx8 bx9 bya byb byc byd bye byf byg byh byi byj byk byl bym byn byo byp byq byr bys byt byu byv byw byx byy byz by0 by1 by2 by3 by4
