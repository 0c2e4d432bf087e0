import Derived.Test.YtplmdlobbfcknaaGreatDoorOrc
import Derived.Test.YtplmdlobbfcknaaGreatDoorChecked
namespace Go.Proofs.YtplmdlobbfcknaaGreatDoor
set_option linter.defProp false
open Go.Ev Go
variable {X:Kx} {K:List Kf} {s:St}
def n_ab:FuncId:=3
def n_cd:FuncId:=5
def n_aa:FuncId:=6
def n_ay:FuncId:=7
def n_au:FuncId:=8
def n_bx:FuncId:=9
def n_bp:FuncId:=12
def n_ba:FuncId:=13
def n_bh:FuncId:=14
def n_av:FuncId:=15
def n_ax:FuncId:=16
def n_ac:FuncId:=17
def n_ck:FuncId:=18
def n_am:FuncId:=19
def n_ap:FuncId:=20
def n_bc:FuncId:=21
def n_cg:FuncId:=22
def n_al:FuncId:=23
def n_bw:FuncId:=32
def n_cq:FuncId:=34
def n_cm:FuncId:=35
def n_bm:FuncId:=36
def n_aw:FuncId:=37
def n_cr:FuncId:=42
def n_bd:FuncId:=43
def n_aq:FuncId:=44
def n_ak:FuncId:=45
def n_ag:FuncId:=46
def n_co:FuncId:=58
def n_ct:FuncId:=65
def n_az:FuncId:=66
def n_bq:FuncId:=70
def n_bu:FuncId:=74
def n_bk:FuncId:=78
def n_a8:FuncId:=79
def n_bt:FuncId:=80
def n_br:FuncId:=81
def n_cy:FuncId:=82
def n_cz:FuncId:=83
def n_ai:FuncId:=84
def n_bg:FuncId:=85
def n_ae:FuncId:=86
def n_ao:FuncId:=87
def n_ah:FuncId:=88
def n_aj:FuncId:=89
def n_bo:FuncId:=105
def n_af:FuncId:=106
def n_cf:FuncId:=107
def n_bl:FuncId:=108
def n_bz:FuncId:=111
def n_cx:FuncId:=112
def n_cu:FuncId:=113
def n_ce:FuncId:=114
def n_cn:FuncId:=115
def n_b8:FuncId:=116
def n_a9:FuncId:=135
def n_bn:FuncId:=136
def n_cw:FuncId:=148
def n_bv:FuncId:=154
def r_aj_0:=rg [
oo 2 (.box 9 (.t 0)),oo 4 (.asg (.c .nilS)),a33 5 0] [1,2]
def r_aj_1:=rg [
a37 11 8 2,a4f 12 11,a4e 13 false 12,a34 14 .gtr 13 0,a4h 15 14,og 16 15 true (.fieldA 8 (.t 2)),og 17 15 true (.load none (.t 16)),og 18 15 true (.len false (.t 17)),a39 19 15 true 1,og 20 15 true (.len false (.t 19)),og 21 15 true (.bin .neq (.t 18) (.t 20)),a4k 22 15 21] [1,2,22]
@[go_sem] def r_aj_2_o:Ops:=[
oo 4 (.asg (.c .nilS)),a33 5 2]
def r_aj_2:=rg r_aj_2_o [4,5]
def r_aj_3:=rg [
oo 6 (.asg (.c .nilS))] [1,2,6]
def r_aj_4:=rg [
a37 23 8 2,a4f 24 23,a4e 25 false 24,oo 26 (.mv (ci 0))] [1,6,24,25,26]
def av8:=rg [
a35 27 .lss 26 25] [1,6,24,25,26,27]
def av7:=rg [
a4h 28 26,a4c 29 1 24 26,a4f 30 29,a4n 7 28,a4n 8 30] [1,6,7,8,24,25,26]
def av6:=rg [
a4h 32 1,a4h 33 7,a4c 34 8 32 33,a4g 35 8 34,a4h 36 8,a36 37 n_cn [(.t 35),(.t 36)],a4h 31 37,a4o 38 31 0,a4o 39 31 1,oo 9 (.alloc [(.int .i64 0),(.bool false),(.bool false),(.bool false),(.int .i64 0),(.int .i64 0),.nilS,.nilS,(.bool false),(.int .i64 0),(.int .i64 0),.nilS,.nilS,(.bool false),(.int .i64 0)]),a4m 15 9 38,a4n 10 39] [1,6,9,10,24,25,26]
def av5:=rg [
a4h 40 10,a34 41 .neq 40 0] [1,6,9,10,24,25,26,41]
@[go_sem] def r_aj_9_o:Ops:=[
a4h 42 10,oo 4 (.asg (.c .nilS)),a4n 5 42]
def r_aj_9:=rg r_aj_9_o [4,5]
def afs:=rg [
a4h 43 6,a4g 44 15 9,oo 45 (.lit false 15 1 (.agg [(.int .i64 0),(.bool false),(.bool false),(.bool false),(.int .i64 0),(.int .i64 0),(.sl []),(.sl []),(.bool false),(.int .i64 0),(.int .i64 0),(.sl []),(.sl []),(.bool false),(.int .i64 0)]) [(0,(.t 44))]),oo 46 (.append 15 176 (.t 43) (.t 45)),a4n 6 46] [1,6,24,25,26]
def afr:=rg [
a34 47 .add 26 1,a4h 26 47] [1,6,24,25,26]
def a1w:ICode:=(.seq av8 (.seq (.cond (.t 27) .skip (.exit 0)) (.seq (.block 1 (.seq av7 (.seq (.seq (.free 9) av6) (.seq (.seq av5 (.cond (.t 41) (.seq r_aj_9 .ret) .skip)) afs)))) afr)))
def abi:=a4a a1w.eq_1
def av9:=rg [
a4h 48 6,a36 49 n_b8 [(.t 48)],a4n 4 49,a33 5 0] [4,5]
def c_aj:ICode:=(.seq r_aj_0 (.seq r_aj_1 (.cond (.t 22) (.seq r_aj_2 .ret) (.seq r_aj_3 (.seq (.seq r_aj_4 (.block 0 (.loop a1w))) (.seq av9 .ret))))))
def i_aj:IFunc:=⟨2,[.t 4,.t 5],c_aj⟩
def a_aj:Advice:=⟨[46],zzz 11 [afr,afs,.ret,av5,av6,av7,av8,r_aj_4,r_aj_3,.ret,r_aj_1,r_aj_0]++[(12,[4,5]),(9,[4,5]),(2,[4,5])],[],[(7,[9])],[],[]⟩
def r_ah_0:=rg [
oo 1 (.box 9 (.t 0)),oo 2 (.asg (.c .nilS)),a32 3 false] [1]
def r_ah_1:=rg [
a37 11 0 1,oo 12 (.idxB 8 1 (.t 11) (ci 5)),a4f 13 12,a4e 14 false 13,a34 15 .gtr 14 32] [1,15]
@[go_sem] def r_ah_2_o:Ops:=[
oo 2 (.asg (.c .nilS)),a32 3 false]
def r_ah_2:=rg r_ah_2_o [2,3]
def r_ah_3:=rg [
oo 4 (.asg (.c .nilS))] [1,4]
def r_ah_4:=rg [
a37 16 0 1,oo 17 (.idxB 8 1 (.t 16) (ci 5)),a4f 18 17,a4e 19 false 18,oo 20 (.mv (ci 0))] [4,18,19,20]
def awn:=rg [
a35 21 .lss 20 19] [4,18,19,20,21]
def awm:=rg [
a4c 22 1 18 20,a4f 23 22,a4n 6 23] [4,6,18,19,20]
def awl:=rg [
a4h 25 6,a36 26 n_bt [(.t 25),(ci 1)],a4h 24 26,a4o 27 24 0,a4o 28 24 1,a4n 7 27,a4n 8 28] [4,6,7,18,19,20]
def awk:=rg [
a4h 30 6,a36 31 n_bt [(.t 30),(ci 2)],a4h 29 31,a4o 32 29 0,a4o 33 29 1,a4n 9 32,a4n 10 33] [4,7,9,18,19,20]
def awj:=rg [
a4h 34 4,a4h 35 7,oo 36 (.b2s (.t 35)),a4h 37 9,oo 38 (.build [(.str []),.nilS] [(0,1,(.t 36)),(1,1,(.t 37))]),oo 39 (.lit false 2 1 (.agg [(.str []),(.sl [])]) [(0,(.t 38))]),oo 40 (.append 2 40 (.t 34) (.t 39)),a4n 4 40] [4,18,19,20]
def af1:=rg [
a34 41 .add 20 1,a4h 20 41] [4,18,19,20]
def sc:ICode:=(.seq awn (.seq (.cond (.t 21) .skip (.exit 0)) (.seq (.block 1 (.seq awm (.seq awl (.seq awk awj)))) af1)))
def a14:=a4a sc.eq_1
def af0:=rg [
a4h 42 4,a36 43 n_ce [(.t 42)],a4n 2 43,a32 3 true] [2,3]
def c_ah:ICode:=(.seq r_ah_0 (.seq r_ah_1 (.cond (.t 15) (.seq r_ah_2 .ret) (.seq r_ah_3 (.seq (.seq r_ah_4 (.block 0 (.loop sc))) (.seq af0 .ret))))))
def i_ah:IFunc:=⟨1,[.t 2,.t 3],c_ah⟩
def a_ah:Advice:=⟨[40],zzz 10 [af1,awj,awk,awl,awm,awn,r_ah_4,r_ah_3,.ret,r_ah_1,r_ah_0]++[(11,[2,3]),(2,[2,3])],[],[],[],[]⟩
def r_ao_0:=rg [
oo 1 (.box 9 (.t 0)),oo 2 (.alloc [(.int .i64 0),.nilS,.nilS,(.int .i64 0),(.int .i64 0),(.int .i64 0)]),a33 3 0] [1,2]
def r_ao_1:=rg [
oo 4 (.asg (.c .nilS))] [1,2,4]
def r_ao_2:=rg [
a37 9 0 1,oo 10 (.idxB 8 1 (.t 9) (ci 4)),a4f 11 10,a4e 12 false 11,oo 13 (.mv (ci 0))] [2,4,11,12,13]
def auq:=rg [
a35 14 .lss 13 12] [2,4,11,12,13,14]
def aup:=rg [
a4c 15 1 11 13,a4f 16 15,a4n 6 16] [2,4,6,11,12,13]
def auo:=rg [
a4h 18 6,a36 19 n_cx [(.t 18)],a4h 17 19,a4o 20 17 0,a4o 21 17 1,oo 7 (.alloc [(.int .i64 0),.nilS,.nilS,(.int .i64 0),(.int .i64 0),(.int .i64 0),(.int .i64 0),(.int .i64 0)]),a4m 8 7 20,a4n 8 21] [2,4,7,8,11,12,13]
def aun:=rg [
a4h 22 8,a34 23 .neq 22 0] [2,4,7,8,11,12,13,23]
@[go_sem] def r_ao_7_o:Ops:=[
oo 24 (.build [(.int .i64 0),.nilS,.nilS,(.int .i64 0),(.int .i64 0),(.int .i64 0)] []),a4h 25 8,a4m 6 2 24,a4n 3 25]
def r_ao_7:=rg r_ao_7_o [2,3]
def aum:=rg [
a4h 26 4,a4g 27 8 7,oo 28 (.lit false 8 1 (.agg [(.int .i64 0),(.sl []),(.sl []),(.int .i64 0),(.int .i64 0),(.int .i64 0),(.int .i64 0),(.int .i64 0)]) [(0,(.t 27))]),oo 29 (.append 8 96 (.t 26) (.t 28)),a4n 4 29] [2,4,11,12,13]
def aul:=rg [
a34 30 .add 13 1,a4h 13 30] [2,4,11,12,13]
def a1t:ICode:=(.seq auq (.seq (.cond (.t 14) .skip (.exit 0)) (.seq (.block 1 (.seq aup (.seq (.seq (.free 7) auo) (.seq (.seq aun (.cond (.t 23) (.seq r_ao_7 .ret) .skip)) aum)))) aul)))
def a15:=a4a a1t.eq_1
def aut:=rg [
a4h 31 4,a4e 32 false 31,a34 33 .eql 32 0] [2,4,33]
@[go_sem] def aus:Ops:=[
oo 34 (.build [(.int .i64 0),.nilS,.nilS,(.int .i64 0),(.int .i64 0),(.int .i64 0)] []),a4m 6 2 34,a33 3 2]
def r_ao_12:=rg aus [2,3]
def aur:=rg [
a4h 35 4,a36 36 n_cu [(.t 35)],a4o 37 36 0,a4o 38 36 1,a4m 6 2 37,a4n 3 38] [2,3]
def c_ao:ICode:=(.seq r_ao_0 (.seq r_ao_1 (.seq (.seq r_ao_2 (.block 0 (.loop a1t))) (.seq aut (.cond (.t 33) (.seq r_ao_12 .ret) (.seq (.seq (.demote [4]) aur) .ret))))))
def i_ao:IFunc:=⟨1,[.cell 2 (some 6),.t 3],c_ao⟩
def a_ao:Advice:=⟨[29],zzz 9 [aul,aum,.ret,aun,auo,aup,auq,r_ao_2,r_ao_1,r_ao_0]++[(12,[2,3]),(11,[2,3]),(10,[2,4,33]),(7,[2,3])],[(12,[4])],[(5,[7])],[],[]⟩
def r_ae_0:=rg [
oo 1 (.box 9 (.t 0)),oo 2 (.asg (.c .nilS)),a32 3 false] [1]
def r_ae_1:=rg [
a37 12 0 1,oo 13 (.idxB 8 1 (.t 12) (ci 3)),a4f 14 13,a4e 15 false 14,a34 16 .gtr 15 1024] [1,16]
@[go_sem] def r_ae_2_o:Ops:=[
oo 2 (.asg (.c .nilS)),a32 3 false]
def r_ae_2:=rg r_ae_2_o [2,3]
def r_ae_3:=rg [
oo 4 (.asg (.c .nilS))] [1,4]
def r_ae_4:=rg [
a37 17 0 1,oo 18 (.idxB 8 1 (.t 17) (ci 3)),a4f 19 18,a4e 20 false 19,oo 21 (.mv (ci 0))] [4,19,20,21]
def axw:=rg [
a35 22 .lss 21 20] [4,19,20,21,22]
def axv:=rg [
a4c 23 1 19 21,a4f 24 23,a4n 6 24] [4,6,19,20,21]
def axu:=rg [
oo 7 (.alloc [(.int .i64 0),(.int .i64 0),(.int .i64 0),(.int .i64 0),(.int .i64 0)])] [4,6,7,19,20,21]
def axt:=rg [
a37 25 0 7,a37 26 1 7,a37 27 2 7,a37 28 3 7,a37 29 4 7,oo 30 (.lit false 1 5 .nilP [(0,(.t 25)),(1,(.t 26)),(2,(.t 27)),(3,(.t 28)),(4,(.t 29))]),a4e 31 false 30,oo 32 (.mv (ci 0))] [4,6,7,19,20,21,30,31,32]
def axs:=rg [
a35 33 .lss 32 31] [4,6,7,19,20,21,30,31,32,33]
def age:=rg [
a4h 34 32,a4c 35 1 30 32,a4f 36 35,a4n 8 34,a4n 9 36] [4,6,7,8,9,19,20,21,30,31,32]
def agd:=rg [
a4h 38 6,a4h 39 8,a34 40 .add 39 1,a36 41 n_bg [(.t 38),(.t 40)],a4h 37 41,a4o 42 37 0,a4o 43 37 1,a4n 10 42,a4n 11 43] [4,6,7,9,10,11,19,20,21,30,31,32]
def agc:=rg [
a4h 44 11,a4j 45 44] [4,6,7,9,10,19,20,21,30,31,32,45]
@[go_sem] def axx:Ops:=[
oo 2 (.asg (.c .nilS)),a32 3 false]
def axy:=rg axx [2,3]
def agb:=rg [
a4h 46 9,a4h 47 10,a4i 48 46,a4m 1 48 47] [4,6,7,19,20,21,30,31,32]
def aga:=rg [
a34 49 .add 32 1,a4h 32 49] [4,6,7,19,20,21,30,31,32]
def aif:ICode:=(.seq axs (.seq (.cond (.t 33) .skip (.exit 2)) (.seq (.block 3 (.seq age (.seq agd (.seq (.seq agc (.cond (.t 45) (.seq axy .ret) .skip)) agb)))) aga)))
def a16:=a4a aif.eq_1
def af9:=rg [
a4h 50 4,a4g 51 5 7,oo 52 (.lit false 5 1 (.agg [(.int .i64 0),(.int .i64 0),(.int .i64 0),(.int .i64 0),(.int .i64 0)]) [(0,(.t 51))]),oo 53 (.append 5 40 (.t 50) (.t 52)),a4n 4 53] [4,19,20,21]
def af8:=rg [
a34 54 .add 21 1,a4h 21 54] [4,19,20,21]
def sd:ICode:=(.seq axw (.seq (.cond (.t 22) .skip (.exit 0)) (.seq (.block 1 (.seq axv (.seq (.seq (.free 7) axu) (.seq (.seq axt (.block 2 (.loop aif))) af9)))) af8)))
def a17:=a4a sd.eq_1
def af7:=rg [
a4h 55 4,a36 56 n_bz [(.t 55)],a4n 2 56,a32 3 true] [2,3]
def c_ae:ICode:=(.seq r_ae_0 (.seq r_ae_1 (.cond (.t 16) (.seq r_ae_2 .ret) (.seq r_ae_3 (.seq (.seq r_ae_4 (.block 0 (.loop sd))) (.seq af7 .ret))))))
def i_ae:IFunc:=⟨1,[.t 2,.t 3],c_ae⟩
def a_ae:Advice:=⟨[53],zzz 17 [af9,.ret,aga,agb,.ret,agc,agd,age,axs,axt,axu,axv,axw,r_ae_4,r_ae_3,.ret,r_ae_1,r_ae_0]++[(18,[2,3]),(16,[4,19,20,21]),(13,[2,3]),(2,[2,3])],[],[(7,[7])],[],[]⟩
def r_bg_0:=rg [
a33 4 0,a32 5 false] [0,1]
def r_bg_1:=rg [
a4h 9 0,a4h 10 1,a36 11 n_br [(.t 9),(.t 10)],a4h 8 11,a4o 12 8 0,a4o 13 8 1,a4n 6 12,a4n 7 13] [6]
def r_bg_2:=rg [
a4h 14 6,oo 15 (.bin .gtr (.t 14) (.c (.int .u64 262144)))] [6,15]
@[go_sem] def r_bg_3_o:Ops:=[
a33 4 0,a32 5 false]
def r_bg_3:=rg r_bg_3_o [4,5]
def r_bg_4:=rg [
a4h 16 6,oo 17 (.cvInt .i64 (.t 16)),a4n 4 17,a32 5 true] [4,5]
def c_bg:ICode:=(.seq r_bg_0 (.seq r_bg_1 (.seq r_bg_2 (.cond (.t 15) (.seq r_bg_3 .ret) (.seq r_bg_4 .ret)))))
def i_bg:IFunc:=⟨2,[.t 4,.t 5],c_bg⟩
def a_bg:=zzy (zzz 4 [r_bg_4,.ret,r_bg_2,r_bg_1,r_bg_0]++[(3,[4,5])])
def r_ai_0:=rg [
oo 2 (.alloc [.nilS,.nilS,.nilS,.nilS,.nilS,.nilS,.nilS,.nilS,.nilS]),a33 3 0] [0,2]
def r_ai_1:=rg [
oo 4 (.alloc [.nilS,.nilS,.nilS,.nilS,.nilS,.nilS,.nilS,.nilS,.nilS])] [0,2,4]
def r_ai_2:=rg [
a4h 9 0,a4e 10 false 9,oo 11 (.mv (ci 0))] [2,4,9,10,11]
def awg:=rg [
a35 12 .lss 11 10] [2,4,9,10,11,12]
def awf:=rg [
a4c 13 5 9 11,a4g 14 5 13,oo 6 (.alloc [(.int .i64 0),(.int .i64 0),(.int .u64 0),.nilS,(.int .i64 0)]),a4m 5 6 14] [2,4,6,9,10,11]
def awe:=rg [
a37 15 1 6,a4f 16 15,a34 17 .neq 16 2] [2,4,6,9,10,11,17]
def awd:=rg [
a37 18 0 6,a4f 19 18] [2,4,6,9,10,11,19]
def awc:=rg [
a34 21 .eql 19 7,a4n 20 21] [2,4,6,9,10,11,19,20]
def awb:=rg [
a34 23 .eql 19 3,a4n 22 23] [2,4,6,9,10,11,19,22]
def awa:=rg [
a34 24 .eql 19 4,a4n 22 24] [2,4,6,9,10,11,19,22]
def afz:=rg [
a34 25 .eql 19 5,a4n 22 25] [2,4,6,9,10,11,22]
def afy:=rg [
a37 26 8 4,a4f 27 26,a37 28 3 6,a4f 29 28,oo 30 (.lit false 1 1 (.sl []) [(0,(.t 29))]),oo 31 (.append 1 24 (.t 27) (.t 30)),a37 32 8 4,a4m 1 32 31] [2,4,6,9,10,11]
def afx:=rg [
a37 34 3 6,a4f 35 34,a36 36 n_a8 [(.t 35)],a4h 33 36,a4o 37 33 0,a4o 38 33 1,a4n 7 37,a4n 8 38] [2,4,6,7,8,9,10,11]
def afw:=rg [
a4h 39 8,a34 40 .neq 39 0] [2,4,6,7,8,9,10,11,40]
@[go_sem] def awh:Ops:=[
a4g 41 9 4,a4h 42 8,a4m 9 2 41,a4n 3 42]
def awi:=rg awh [2,3]
@[go_sem] def zo:Ops:=[
a37 43 0 6,a4f 44 43,a37 45 0 6,a4f 46 45,a37 47 0 4,oo 48 (.idxB 8 1 (.t 47) (.t 46)),a4f 49 48,a4h 50 7,oo 51 (.lit false 1 1 (.sl []) [(0,(.t 50))]),oo 52 (.append 1 24 (.t 49) (.t 51)),a37 53 0 4,oo 54 (.idxB 8 1 (.t 53) (.t 44)),a4m 1 54 52]
def zp:List (Nat×Nat):=[(0,2),(1,2),(0,3),(1,3),(0,4),(1,4),(2,4),(3,4),(0,5),(1,5),(0,6),(1,6),(0,7),(1,7),(2,7),(3,7),(4,7),(5,7),(6,7),(0,8),(1,8),(2,8),(3,8),(4,8),(5,8),(6,8),(0,9),(1,9),(0,10),(1,10),(2,10),(3,10),(4,10),(5,10),(6,10),(7,10),(8,10),(9,10)]
def afv:ICode:= .region zo zp [2,4,9,10,11]
@[go_sem] theorem r_ai_15_u:Gu X K s afv zp zo [2,4,9,10,11]:=go_regionU' _ _ _ _
def afu:=rg [
a34 55 .add 11 1,a4h 11 55] [2,4,9,10,11]
def ev:ICode:=(.seq awg (.seq (.cond (.t 12) .skip (.exit 0)) (.seq (.block 1 (.seq (.seq (.free 6) awf) (.seq (.seq awe (.cond (.t 17) (.exit 1) .skip)) (.seq awd (.block 2 (.seq (.block 4 (.seq (.block 3 (.seq (.seq (.seq awc (.cond (.t 20) (.exit 3) .skip)) (.seq (.seq awb (.cond (.t 22) .skip (.seq awa (.cond (.t 22) .skip afz)))) (.cond (.t 22) (.exit 4) .skip))) (.exit 2))) afy)) (.seq (.seq afx (.seq (.seq afw (.cond (.t 40) (.seq awi .ret) .skip)) afv)) (.exit 2)))))))) afu)))
def a18:=a4a ev.eq_1
def aft:=rg [
a4g 56 9 4,a4m 9 2 56,a33 3 0] [2,3]
def c_ai:ICode:=(.seq r_ai_0 (.seq r_ai_1 (.seq (.seq r_ai_2 (.block 0 (.loop ev))) (.seq aft .ret))))
def i_ai:IFunc:=⟨1,[.cell 2 (some 9),.t 3],c_ai⟩
def a_ai:Advice:=⟨[31],zzz 16 [afu,.ret,.ret,afw,afx,afy,afz,awa,awb,awc,awd,awe,awf,awg,r_ai_2,r_ai_1,r_ai_0]++[(17,[2,3]),(15,[2,4,9,10,11]),(14,[2,3])],[],[(4,[6])],[],[]⟩
def r_ag_0:=rg [
oo 2 (.alloc [(.int .i64 0),.nilS,(.int .i64 0),.nilS,.nilS,(.int .i64 0),(.int .i64 0),(.int .i64 0),.nilS,(.int .i64 0),.nilS,(.int .i64 0)]),a33 3 0] [0,2]
def r_ag_1:=rg [
a4h 11 0,a36 12 n_a8 [(.t 11)],a4h 10 12,a4o 13 10 0,a4o 14 10 1,a4n 4 13,a4n 5 14] [2,4,5]
def r_ag_2:=rg [
a4h 15 5,a34 16 .neq 15 0] [2,4,5,16]
@[go_sem] def r_ag_3_o:Ops:=[
oo 17 (.build [(.int .i64 0),.nilS,(.int .i64 0),.nilS,.nilS,(.int .i64 0),(.int .i64 0),(.int .i64 0),.nilS,(.int .i64 0),.nilS,(.int .i64 0)] []),a4h 18 5,a4m 12 2 17,a4n 3 18]
def r_ag_3:=rg r_ag_3_o [2,3]
def r_ag_4:=rg [
a4h 20 4,a36 21 n_ai [(.t 20)],a4h 19 21,a4o 22 19 0,a4o 23 19 1,oo 6 (.alloc [.nilS,.nilS,.nilS,.nilS,.nilS,.nilS,.nilS,.nilS,.nilS]),a4m 9 6 22,a4n 5 23] [2,4,5,6]
def r_ag_5:=rg [
a4h 24 5,a34 25 .neq 24 0] [2,4,5,6,25]
@[go_sem] def r_ag_6_o:Ops:=[
oo 26 (.build [(.int .i64 0),.nilS,(.int .i64 0),.nilS,.nilS,(.int .i64 0),(.int .i64 0),(.int .i64 0),.nilS,(.int .i64 0),.nilS,(.int .i64 0)] []),a4h 27 5,a4m 12 2 26,a4n 3 27]
def r_ag_6:=rg r_ag_6_o [2,3]
def r_ag_7:=rg [
oo 7 (.alloc [(.int .i64 0),.nilS,(.int .i64 0),.nilS,.nilS,(.int .i64 0),(.int .i64 0),(.int .i64 0),.nilS,(.int .i64 0),.nilS,(.int .i64 0)])] [2,4,6,7]
def r_ag_8:=rg [
a32 8 false,a32 9 false] [2,4,6,7]
def r_ag_9:=rg [
a4h 29 4,a36 30 n_bg [(.t 29),(ci 2)],a4h 28 30,a4o 31 28 0,a4o 32 28 1,a37 33 0 7,a4m 1 33 31,a4n 8 32] [2,4,6,7,8]
def aw6:=rg [
a4h 34 8,a4j 35 34] [2,4,6,7,35]
@[go_sem] def aw5:Ops:=[
oo 36 (.build [(.int .i64 0),.nilS,(.int .i64 0),.nilS,.nilS,(.int .i64 0),(.int .i64 0),(.int .i64 0),.nilS,(.int .i64 0),.nilS,(.int .i64 0)] []),a4m 12 2 36,a33 3 2]
def r_ag_11:=rg aw5 [2,3]
def aw4:=rg [
a4g 38 9 6,a36 39 n_ae [(.t 38)],a4h 37 39,a4o 40 37 0,a4o 41 37 1,a37 42 1 7,a4m 1 42 40,a4n 8 41] [2,4,6,7,8]
def aw3:=rg [
a4h 43 8,a4j 44 43] [2,4,6,7,44]
@[go_sem] def aw2:Ops:=[
oo 45 (.build [(.int .i64 0),.nilS,(.int .i64 0),.nilS,.nilS,(.int .i64 0),(.int .i64 0),(.int .i64 0),.nilS,(.int .i64 0),.nilS,(.int .i64 0)] []),a4m 12 2 45,a33 3 2]
def r_ag_14:=rg aw2 [2,3]
def aw1:=rg [
a4g 47 9 6,a36 48 n_ao [(.t 47)],a4h 46 48,a4o 49 46 0,a4o 50 46 1,a37 51 2 7,a4m 6 51 49,a4n 5 50] [2,4,5,6,7]
def aw0:=rg [
a4h 52 5,a34 53 .neq 52 0] [2,4,5,6,7,53]
@[go_sem] def awz:Ops:=[
oo 54 (.build [(.int .i64 0),.nilS,(.int .i64 0),.nilS,.nilS,(.int .i64 0),(.int .i64 0),(.int .i64 0),.nilS,(.int .i64 0),.nilS,(.int .i64 0)] []),a4h 55 5,a4m 12 2 54,a4n 3 55]
def r_ag_17:=rg awz [2,3]
def awy:=rg [
a4g 57 9 6,a36 58 n_ah [(.t 57)],a4h 56 58,a4o 59 56 0,a4o 60 56 1,a37 61 8 7,a4m 1 61 59,a4n 8 60] [2,4,6,7,8]
def awx:=rg [
a4h 63 4,a36 64 n_bg [(.t 63),(ci 6)],a4h 62 64,a4o 65 62 0,a4o 66 62 1,a37 67 9 7,a4m 1 67 65,a4n 9 66] [2,4,6,7,8,9]
def aww:=rg [
a4h 68 8,a4j 69 68,a4h 70 69,a39 71 70 false 9,og 72 70 false (.un .not (.t 71)),a4l 73 70 72] [2,4,6,7,73]
@[go_sem] def awv:Ops:=[
oo 74 (.build [(.int .i64 0),.nilS,(.int .i64 0),.nilS,.nilS,(.int .i64 0),(.int .i64 0),(.int .i64 0),.nilS,(.int .i64 0),.nilS,(.int .i64 0)] []),a4m 12 2 74,a33 3 2]
def r_ag_21:=rg awv [2,3]
@[go_sem] def z9:Ops:=[
a4g 76 9 6,a37 77 2 7,a4g 78 6 77,a36 79 n_co [(.t 78)],a36 80 n_aj [(.t 76),(.t 79)],a4h 75 80,a4o 81 75 0,a4o 82 75 1,a37 83 10 7,a4m 1 83 81,a4n 5 82]
def aaa:List (Nat×Nat):=[(0,1),(0,2),(0,3),(6,7),(7,8),(7,9)]
def awu:ICode:= .region z9 aaa [2,4,5,7]
@[go_sem] theorem r_ag_22_u:Gu X K s awu aaa z9 [2,4,5,7]:=go_regionU' _ _ _ _
def awt:=rg [
a4h 84 5,a34 85 .neq 84 0] [2,4,5,7,85]
@[go_sem] def aws:Ops:=[
oo 86 (.build [(.int .i64 0),.nilS,(.int .i64 0),.nilS,.nilS,(.int .i64 0),(.int .i64 0),(.int .i64 0),.nilS,(.int .i64 0),.nilS,(.int .i64 0)] []),a4h 87 5,a4m 12 2 86,a4n 3 87]
def r_ag_24:=rg aws [2,3]
def awr:=rg [
a4h 89 4,a36 90 n_bg [(.t 89),(ci 8)],a4h 88 90,a4o 91 88 0,a4o 92 88 1,a37 93 11 7,a4m 1 93 91,a4n 8 92] [2,7,8]
def awq:=rg [
a4h 94 8,a4j 95 94] [2,7,95]
@[go_sem] def awp:Ops:=[
oo 96 (.build [(.int .i64 0),.nilS,(.int .i64 0),.nilS,.nilS,(.int .i64 0),(.int .i64 0),(.int .i64 0),.nilS,(.int .i64 0),.nilS,(.int .i64 0)] []),a4m 12 2 96,a33 3 2]
def r_ag_27:=rg awp [2,3]
def awo:=rg [
a4g 97 12 7,a4m 12 2 97,a33 3 0] [2,3]
def c_ag:ICode:=(.seq r_ag_0 (.seq r_ag_1 (.seq r_ag_2 (.cond (.t 16) (.seq r_ag_3 .ret) (.seq r_ag_4 (.seq r_ag_5 (.cond (.t 25) (.seq r_ag_6 .ret) (.seq r_ag_7 (.seq r_ag_8 (.seq (.seq r_ag_9 (.seq aw6 (.cond (.t 35) (.seq r_ag_11 .ret) .skip))) (.seq (.seq aw4 (.seq aw3 (.cond (.t 44) (.seq r_ag_14 .ret) .skip))) (.seq (.seq aw1 (.seq aw0 (.cond (.t 53) (.seq r_ag_17 .ret) .skip))) (.seq awy (.seq (.seq awx (.seq aww (.cond (.t 73) (.seq r_ag_21 .ret) .skip))) (.seq (.seq awu (.seq awt (.cond (.t 85) (.seq r_ag_24 .ret) .skip))) (.seq (.seq awr (.seq awq (.cond (.t 95) (.seq r_ag_27 .ret) .skip))) (.seq awo .ret)))))))))))))))))
def i_ag:IFunc:=⟨1,[.cell 2 (some 12),.t 3],c_ag⟩
def a_ag:=zzy (zzz 28 [awo,.ret,awq,awr,.ret,awt,.ret,.ret,aww,awx,awy,.ret,aw0,aw1,.ret,aw3,aw4,.ret,aw6,r_ag_9,r_ag_8,r_ag_7,.ret,r_ag_5,r_ag_4,.ret,r_ag_2,r_ag_1,r_ag_0]++[(27,[2,3]),(24,[2,3]),(22,[2,4,5,7]),(21,[2,3]),(17,[2,3]),(14,[2,3]),(11,[2,3]),(6,[2,3]),(3,[2,3])])
def r_ak_0:=rg [
oo 8 (.asg (.c .nilS)),a33 9 0] [0,1,2,3]
def r_ak_1:=rg [
a4h 16 1,a36 17 n_ct [(.t 16)],a4j 18 17,a4n 15 18] [0,1,2,3,15]
@[go_sem] def r_ak_2_o:Ops:=[
oo 8 (.asg (.c .nilS)),a33 9 7]
def r_ak_2:=rg r_ak_2_o [8,9]
def r_ak_3:=rg [
a4h 20 2,a34 21 .lss 20 1,a4h 22 21,a39 23 22 false 2,og 24 22 false (.bin .gtr (.t 23) (ci 65536)),a4l 25 22 24,a4h 26 25,a39 27 26 false 3,og 28 26 false (.bin .lss (.t 27) (ci 0)),a4l 29 26 28,a4h 30 29,a39 31 30 false 3,og 32 30 false (.bin .gtr (.t 31) (ci 262144)),a4l 33 30 32,a4n 19 33] [0,1,2,3,19]
@[go_sem] def r_ak_4_o:Ops:=[
oo 8 (.asg (.c .nilS)),a33 9 1]
def r_ak_4:=rg r_ak_4_o [8,9]
def r_ak_5:=rg [
a4h 35 1,a34 36 .eql 35 0,a4h 37 36,a39 38 37 true 0,og 39 37 true (.len false (.t 38)),a39 40 37 true 3,og 41 37 true (.bin .gtr (.t 39) (.t 40)),a4k 42 37 41,a4n 34 42] [0,1,2,3,34]
@[go_sem] def r_ak_6_o:Ops:=[
oo 8 (.asg (.c .nilS)),a33 9 4]
def r_ak_6:=rg r_ak_6_o [8,9]
def r_ak_7:=rg [
a4h 44 1,a34 45 .eql 44 0,a4n 43 45] [0,2,3,43]
def r_ak_8:=rg [
a4h 46 0,a36 47 n_az [(.t 46)],a36 48 n_bw [(.t 47)],a4n 8 48,a33 9 0] [8,9]
@[go_sem] def r_ak_9_o:Ops:=[
oo 10 (.asg (.c .nilS))]
def r_ak_9:=rg r_ak_9_o [0,2,3,10]
@[go_sem] def av4:Ops:=[
a33 11 0]
def r_ak_10:=rg av4 [0,2,3,10,11]
@[go_sem] def av2:Ops:=[
a4h 49 11,a4h 50 0,a4e 51 false 50,a35 52 .lss 49 51]
def av3:=rg av2 [0,2,3,10,11,52]
@[go_sem] def av0:Ops:=[
a4h 54 0,a4h 55 11,a36 56 n_cy [(.t 54),(.t 55)],a4h 53 56,a4o 57 53 0,a4o 58 53 1,a4o 59 53 2,a4n 12 57,a4n 13 58,a4n 14 59]
def av1:=rg av0 [0,2,3,10,11,12,13,14]
@[go_sem] def avy:Ops:=[
a4h 60 14,a34 61 .neq 60 0]
def avz:=rg avy [0,2,3,10,11,12,13,14,61]
@[go_sem] def avw:Ops:=[
a4h 62 14,oo 8 (.asg (.c .nilS)),a4n 9 62]
def avx:=rg avw [8,9]
@[go_sem] def avu:Ops:=[
a4h 63 11,a4h 64 12,a4e 65 false 64,oo 66 (.bin .add (ci 3) (.t 65)),a35 67 .add 63 66,a4n 11 67]
def avv:=rg avu [0,2,3,10,11,12,13]
@[go_sem] def avs:Ops:=[
a4h 68 13,a4h 69 68,a39 70 69 true 12,og 71 69 true (.len false (.t 70)),a39 72 69 true 2,og 73 69 true (.bin .gtr (.t 71) (.t 72)),a4k 74 69 73]
def avt:=rg avs [0,2,3,10,11,12,13,74]
@[go_sem] def avq:Ops:=[
oo 8 (.asg (.c .nilS)),a33 9 4]
def avr:=rg avq [8,9]
@[go_sem] def avo:Ops:=[
a4h 75 13,a4j 76 75]
def avp:=rg avo [0,2,3,10,11,12,76]
@[go_sem] def avm:Ops:=[
a4h 78 12,a4h 79 2,a36 80 n_cz [(.t 78),(.t 79)],a4h 77 80,a4o 81 77 0,a4o 82 77 1,a4n 12 81,a4n 14 82]
def avn:=rg avm [0,2,3,10,11,12,14]
@[go_sem] def avk:Ops:=[
a4h 83 14,a34 84 .neq 83 0]
def avl:=rg avk [0,2,3,10,11,12,14,84]
@[go_sem] def avi:Ops:=[
a4h 85 14,oo 8 (.asg (.c .nilS)),a4n 9 85]
def avj:=rg avi [8,9]
@[go_sem] def avg:Ops:=[
a4h 86 12,a4e 87 false 86,a4h 88 3,a4h 89 10,a4e 90 false 89,a35 91 .sub 88 90,a35 92 .gtr 87 91]
def avh:=rg avg [0,2,3,10,11,12,92]
@[go_sem] def ave:Ops:=[
oo 8 (.asg (.c .nilS)),a33 9 4]
def avf:=rg ave [8,9]
@[go_sem] def avc:Ops:=[
a4h 93 10,a4h 94 12,oo 95 (.append 1 1 (.t 93) (.t 94)),a4n 10 95]
def avd:=rg avc [0,2,3,10,11]
def a1v:ICode:=(.seq (.seq av3 (.cond (.t 52) .skip (.exit 1))) (.block 2 (.seq av1 (.seq (.seq avz (.cond (.t 61) (.seq avx .ret) .skip)) (.seq avv (.seq (.seq avt (.cond (.t 74) (.seq avr .ret) .skip)) (.seq (.seq avp (.cond (.t 76) (.seq avn (.seq avl (.cond (.t 84) (.seq avj .ret) .skip))) .skip)) (.seq (.seq avh (.cond (.t 92) (.seq avf .ret) .skip)) avd))))))))
def a19:=a4a a1v.eq_1
@[go_sem] def avb:Ops:=[
a4h 96 10,a36 97 n_bw [(.t 96)],a4n 8 97,a33 9 0]
def r_ak_26:=rg avb [8,9]
def c_ak:ICode:=(.seq r_ak_0 (.seq (.block 0 (.seq r_ak_1 (.cond (.t 15) (.seq r_ak_2 .ret) (.seq r_ak_3 (.cond (.t 19) (.seq r_ak_4 .ret) (.seq r_ak_5 (.cond (.t 34) (.seq r_ak_6 .ret) (.seq r_ak_7 (.cond (.t 43) (.seq r_ak_8 .ret) .skip))))))))) (.seq r_ak_9 (.seq (.seq r_ak_10 (.block 1 (.loop a1v))) (.seq r_ak_26 .ret)))))
def i_ak:IFunc:=⟨4,[.t 8,.t 9],c_ak⟩
def a_ak:Advice:=⟨[95],zzz 8 [r_ak_8,r_ak_7,.ret,r_ak_5,.ret,r_ak_3,.ret,r_ak_1,r_ak_0]++[(25,[8,9]),(24,[0,2,3,10,11]),(23,[8,9]),(22,[0,2,3,10,11,12,92]),(21,[8,9]),(20,[0,2,3,10,11,12,14,84]),(19,[0,2,3,10,11,12,14]),(18,[0,2,3,10,11,12,76]),(17,[8,9]),(16,[0,2,3,10,11,12,13,74]),(15,[0,2,3,10,11,12,13]),(14,[8,9]),(13,[0,2,3,10,11,12,13,14,61]),(12,[0,2,3,10,11,12,13,14]),(11,[0,2,3,10,11,52]),(10,[0,2,3,10,11]),(9,[0,2,3,10]),(2,[8,9]),(4,[8,9]),(6,[8,9])],[],[],[],[]⟩
def r_al_0:=rg [
oo 3 (.box 4 (.t 1)),oo 4 (.alloc [(.int .i64 0),.nilS,(.int .i64 0),.nilS,.nilS,(.int .i64 0),(.int .i64 0),(.int .i64 0),.nilS,(.int .i64 0),.nilS,(.int .i64 0)]),a33 5 0] [0,3,4]
def r_al_1:=rg [
a37 13 2 3,a4f 14 13,a4n 6 14] [0,3,4,6]
def r_al_2:=rg [
a37 15 1 3,a4f 16 15,a34 17 .eql 16 0] [0,3,4,6,17]
def r_al_3:=rg [
a33 6 64] [0,3,4,6]
def r_al_4:=rg [
a4h 19 0,a37 20 1 3,a4f 21 20,a4h 22 6,a36 23 n_ak [(.t 19),(.t 21),(.t 22),(ci 65536)],a4h 18 23,a4o 24 18 0,a4o 25 18 1,a4n 7 24,a4n 8 25] [4,7,8]
def r_al_5:=rg [
a4h 26 8,a34 27 .neq 26 0] [4,7,8,27]
@[go_sem] def r_al_6_o:Ops:=[
oo 28 (.build [(.int .i64 0),.nilS,(.int .i64 0),.nilS,.nilS,(.int .i64 0),(.int .i64 0),(.int .i64 0),.nilS,(.int .i64 0),.nilS,(.int .i64 0)] []),a4h 29 8,a4m 12 4 28,a4n 5 29]
def r_al_6:=rg r_al_6_o [4,5]
def r_al_7:=rg [
a4h 31 7,a36 32 n_ag [(.t 31)],a4h 30 32,a4o 33 30 0,a4o 34 30 1,oo 9 (.alloc [(.int .i64 0),.nilS,(.int .i64 0),.nilS,.nilS,(.int .i64 0),(.int .i64 0),(.int .i64 0),.nilS,(.int .i64 0),.nilS,(.int .i64 0)]),a4m 12 9 33,a4n 8 34] [4,8,9]
def r_al_8:=rg [
a4h 35 8,a34 36 .neq 35 0] [4,8,9,36]
@[go_sem] def r_al_9_o:Ops:=[
oo 37 (.build [(.int .i64 0),.nilS,(.int .i64 0),.nilS,.nilS,(.int .i64 0),(.int .i64 0),(.int .i64 0),.nilS,(.int .i64 0),.nilS,(.int .i64 0)] []),a4h 38 8,a4m 12 4 37,a4n 5 38]
def r_al_9:=rg r_al_9_o [4,5]
def ava:=rg [
a33 10 0] [4,9,10]
def au9:=rg [
a37 39 1 9,a4f 40 39,a4e 41 false 40,oo 42 (.mv (ci 0))] [4,9,10,40,41,42]
def afq:=rg [
a35 43 .lss 42 41] [4,9,10,40,41,42,43]
def afp:=rg [
a4c 44 5 40 42,a4g 45 5 44,oo 12 (.alloc [(.int .i64 0),(.int .i64 0),(.int .i64 0),(.int .i64 0),(.int .i64 0)]),a4m 5 12 45] [4,9,10,12,40,41,42]
def afo:=rg [
a4h 46 10,a37 47 4 12,a4f 48 47,a35 49 .add 46 48,a4n 10 49] [4,9,10,40,41,42]
def afn:=rg [
a34 50 .add 42 1,a4h 42 50] [4,9,10,40,41,42]
def sb:ICode:=(.seq afq (.seq (.cond (.t 43) .skip (.exit 0)) (.seq (.block 1 (.seq (.seq (.free 12) afp) afo)) afn)))
def a2a:=a4a sb.eq_1
def au8:=rg [
a4h 51 10,a37 52 9 9,a4f 53 52,a35 54 .neq 51 53,a4h 55 54,a39 56 55 false 10,og 57 55 false (.bin .gtr (.t 56) (ci 4096)),a4l 58 55 57] [4,9,58]
def au7:=rg [
oo 59 (.build [(.int .i64 0),.nilS,(.int .i64 0),.nilS,.nilS,(.int .i64 0),(.int .i64 0),(.int .i64 0),.nilS,(.int .i64 0),.nilS,(.int .i64 0)] []),a4m 12 4 59,a33 5 2] [4,5]
def au6:=rg [
a4g 60 12 9,a4m 12 4 60,a33 5 0] [4,5]
def c_al:ICode:=(.seq r_al_0 (.seq r_al_1 (.seq (.seq r_al_2 (.cond (.t 17) r_al_3 .skip)) (.seq r_al_4 (.seq r_al_5 (.cond (.t 27) (.seq r_al_6 .ret) (.seq r_al_7 (.seq r_al_8 (.cond (.t 36) (.seq r_al_9 .ret) (.seq ava (.seq (.seq au9 (.block 0 (.loop sb))) (.seq au8 (.cond (.t 58) (.seq au7 .ret) (.seq au6 .ret))))))))))))))
def i_al:IFunc:=⟨2,[.cell 4 (some 12),.t 5],c_al⟩
def a_al:Advice:=⟨[],zzz 18 [au7,.ret,.ret,afn,afo,afp,afq,au9,ava,.ret,r_al_8,r_al_7,.ret,r_al_5,r_al_4,r_al_3,r_al_2,r_al_1,r_al_0]++[(17,[4,5]),(16,[4,9,58]),(9,[4,5]),(6,[4,5])],[],[(13,[12])],[],[]⟩
@[go_sem] def r_bq_0_o:Ops:=[
a32 2 false,a32 3 false]
def r_bq_0:=rg r_bq_0_o [0,2,3]
@[go_sem] def r_bq_1_o:Ops:=[
a4h 4 0]
def r_bq_1:=rg r_bq_1_o [2,3,4]
@[go_sem] def r_bq_2_o:Ops:=[
oo 6 (.bin .eql (.t 4) (.c (.int .u64 4))),a4n 5 6]
def r_bq_2:=rg r_bq_2_o [2,3,4,5]
@[go_sem] def r_bq_3_o:Ops:=[
oo 8 (.bin .eql (.t 4) (.c (.int .u64 0))),a4n 7 8]
def r_bq_3:=rg r_bq_3_o [2,3,7]
@[go_sem] def r_bq_4_o:Ops:=[
a32 3 true]
def r_bq_4:=rg r_bq_4_o [3]
@[go_sem] def r_bq_5_o:Ops:=[
a32 2 true]
def r_bq_5:=rg r_bq_5_o [2,3]
@[go_sem] def r_bq_6_o:Ops:=[
a4h 9 2,a4h 10 3,a4n 2 9,a4n 3 10]
def r_bq_6:=rg r_bq_6_o [2,3]
def c_bq:ICode:=(.seq r_bq_0 (.seq (.seq r_bq_1 (.block 0 (.seq (.block 2 (.seq (.block 1 (.seq (.seq (.seq r_bq_2 (.cond (.t 5) (.exit 1) .skip)) (.seq r_bq_3 (.cond (.t 7) (.exit 2) .skip))) (.exit 0))) r_bq_4)) (.seq r_bq_5 (.exit 0))))) (.seq r_bq_6 .ret)))
def i_bq:IFunc:=⟨1,[.t 2,.t 3],c_bq⟩
def a_bq:=zzy ([(6,[2,3]),(5,[2,3]),(4,[3]),(3,[2,3,7]),(2,[2,3,4,5]),(1,[2,3,4]),(0,[0,2,3])])
def r_br_0:=rg [
oo 4 (.asg (.c (.int .u64 0))),a32 5 false] [0,1]
def r_br_1:=rg [
a4h 9 0,a4h 10 1,a36 11 n_bl [(.t 9),(.t 10),(ci 0)],a4h 8 11,a4o 12 8 0,a4o 13 8 1,oo 6 (.alloc [(.int .i64 0),(.int .i64 0),(.int .u64 0),.nilS,(.int .i64 0)]),a4m 5 6 12,a4n 7 13] [6,7]
def r_br_2:=rg [
a37 14 2 6,a4f 15 14,a4h 16 7,a4n 4 15,a4n 5 16] [4,5]
def c_br:ICode:=(.seq r_br_0 (.seq r_br_1 (.seq r_br_2 .ret)))
def i_br:IFunc:=⟨2,[.t 4,.t 5],c_br⟩
def a_br:=zzy (zzz 2 [r_br_2,r_br_1,r_br_0])
def r_bl_0:=rg [
oo 4 (.box 1 (.t 1)),oo 5 (.box 1 (.t 2)),oo 6 (.alloc [(.int .i64 0),(.int .i64 0),(.int .u64 0),.nilS,(.int .i64 0)]),oo 7 (.alloc [(.bool false)])] [0,4,5,6,7]
def r_bl_1:=rg [
a4h 10 0,a36 11 n_bn [(.t 10)]] [4,5,6,7,11]
def aty:=rg [
oo 9 (.alloc [(.int .i64 0),(.int .i64 0),(.int .u64 0),.nilS,(.int .i64 0)]),a4m 5 9 13] [4,5,6,7,9]
def a1r:ICode:=aty
def a2b:=a4a a1r.eq_1
def atx:=rg [
a37 14 0 9,a4f 15 14,a4f 16 4,a35 17 .eql 15 16,a4h 18 17,og 19 18 true (.fieldA 1 (.t 9)),og 20 18 true (.load none (.t 19)),og 21 18 true (.load none (.t 5)),og 22 18 true (.bin .eql (.t 20) (.t 21)),a4k 23 18 22] [6,7,9,23]
def atw:=rg [
a4g 24 5 9,a4m 5 6 24,ow (.store 1 (.t 7) (.c (.bool true)))] [6,7]
def a1q:ICode:=(.block 1 (.seq atx (.cond (.t 23) (.seq atw .ret) .skip)))
def a2c:=a4a a1q.eq_1
def atv:=rg [
oo 25 (.build [(.int .i64 0),(.int .i64 0),(.int .u64 0),.nilS,(.int .i64 0)] []),a4m 5 6 25,ow (.store 1 (.t 7) (.c (.bool false)))] [6,7]
def c_bl:ICode:=(.seq r_bl_0 (.seq (.seq r_bl_1 (.block 0 (.each (.t 11) [12,13] a1r a1q))) (.seq atv .ret)))
def i_bl:IFunc:=⟨3,[.cell 6 (some 5),.cell 7 none],c_bl⟩
def a_bl:=zzy (zzz 5 [atw,.ret,.ret,aty,r_bl_1,r_bl_0]++[(4,[6,7]),(3,[6,7,9,23])])
def r_bt_0:=rg [
oo 4 (.asg (.c .nilS)),a32 5 false] [0,1]
def r_bt_1:=rg [
a4h 9 0,a4h 10 1,a36 11 n_bl [(.t 9),(.t 10),(ci 2)],a4h 8 11,a4o 12 8 0,a4o 13 8 1,oo 6 (.alloc [(.int .i64 0),(.int .i64 0),(.int .u64 0),.nilS,(.int .i64 0)]),a4m 5 6 12,a4n 7 13] [6,7]
def r_bt_2:=rg [
a37 14 3 6,a4f 15 14,a36 16 n_az [(.t 15)],a36 17 n_bw [(.t 16)],a4h 18 7,a4n 4 17,a4n 5 18] [4,5]
def c_bt:ICode:=(.seq r_bt_0 (.seq r_bt_1 (.seq r_bt_2 .ret)))
def i_bt:IFunc:=⟨2,[.t 4,.t 5],c_bt⟩
def a_bt:=zzy (zzz 2 [r_bt_2,r_bt_1,r_bt_0])
def r_a9_0:=rg [
oo 4 (.asg (.c (.int .u64 0))),a33 5 0,a33 6 0] [0,1,4]
def r_a9_1:=rg [
a4h 9 1,a34 10 .lss 9 0,a4h 11 10,a39 12 11 false 1,a39 13 11 false 0,og 14 11 false (.len false (.t 13)),og 15 11 false (.bin .gtr (.t 12) (.t 14)),a4l 16 11 15] [0,1,4,16]
@[go_sem] def r_a9_2_o:Ops:=[
oo 4 (.asg (.c (.int .u64 0))),a33 5 0,a33 6 1]
def r_a9_2:=rg r_a9_2_o [4,5,6]
def r_a9_3:=rg [
a4h 17 0,a4h 18 1,oo 19 (.slice 1 (.t 17) (some (.t 18)) none none),a4e 20 false 19,oo 21 (.mv (ci 0))] [4,19,20,21]
def azb:=rg [
a35 22 .lss 21 20] [4,19,20,21,22]
def aza:=rg [
a4h 23 21,a4c 24 1 19 21,a4f 25 24,a4n 7 23,a4n 8 25] [4,7,8,19,20,21]
def ay9:=rg [
a4h 26 7,a34 27 .eql 26 9,a4h 28 27,a39 29 28 true 8,og 30 28 true (.bin .gtr (.t 29) (.c (.int .u8 1))),a4k 31 28 30] [4,7,8,19,20,21,31]
def ay8:=rg [
oo 4 (.asg (.c (.int .u64 0))),a33 5 0,a33 6 4] [4,5,6]
def ay7:=rg [
a4h 32 4,a4h 33 8,oo 34 (.bin .andNot (.t 33) (.c (.int .u8 128))),oo 35 (.cvInt .u64 (.t 34)),a4h 36 7,oo 37 (.bin .mul (ci 7) (.t 36)),a35 38 .shl 35 37,a35 39 .or 32 38,a4n 4 39] [4,7,8,19,20,21]
def ay6:=rg [
a4h 40 8,oo 41 (.bin .lss (.t 40) (.c (.int .u8 128)))] [4,7,19,20,21,41]
def ahe:=rg [
a4h 42 4,a4h 43 7,a34 44 .add 43 1,a4n 4 42,a4n 5 44,a33 6 0] [4,5,6]
def ahd:=rg [
a34 45 .add 21 1,a4h 21 45] [4,19,20,21]
def ail:ICode:=(.seq azb (.seq (.cond (.t 22) .skip (.exit 0)) (.seq (.block 1 (.seq aza (.seq (.seq ay9 (.cond (.t 31) (.seq ay8 .ret) .skip)) (.seq ay7 (.seq ay6 (.cond (.t 41) (.seq ahe .ret) .skip)))))) ahd)))
def a2d:=a4a ail.eq_1
def ahc:=rg [
oo 4 (.asg (.c (.int .u64 0))),a33 5 0,a33 6 3] [4,5,6]
def c_a9:ICode:=(.seq r_a9_0 (.seq r_a9_1 (.cond (.t 16) (.seq r_a9_2 .ret) (.seq (.seq r_a9_3 (.block 0 (.loop ail))) (.seq ahc .ret)))))
def i_a9:IFunc:=⟨2,[.t 4,.t 5,.t 6],c_a9⟩
def a_a9:=zzy (zzz 11 [ahd,ahe,ay6,ay7,ay8,ay9,aza,azb,r_a9_3,.ret,r_a9_1,r_a9_0]++[(12,[4,5,6]),(2,[4,5,6])])
def r_af_0:=rg [
oo 4 (.alloc [(.int .i64 0),(.int .i64 0),(.int .u64 0),.nilS,(.int .i64 0)]),a33 5 0,a33 6 0] [0,1,4]
def r_af_1:=rg [
a4h 18 0,a4h 19 1,a36 20 n_a9 [(.t 18),(.t 19)],a4h 17 20,a4o 21 17 0,a4o 22 17 1,a4o 23 17 2,a4n 7 21,a4n 8 22,a4n 9 23] [0,1,4,7,8,9]
def r_af_2:=rg [
a4h 24 9,a34 25 .neq 24 0] [0,1,4,7,8,9,25]
def r_af_3:=rg [
oo 26 (.build [(.int .i64 0),(.int .i64 0),(.int .u64 0),.nilS,(.int .i64 0)] []),a4h 27 9,a4m 5 4 26,a33 5 0,a4n 6 27] [4,5,6]
def r_af_4:=rg [
a4h 28 7,oo 29 (.bin .and (.t 28) (.c (.int .u64 7))),oo 30 (.cvInt .i64 (.t 29)),a4h 31 1,oo 32 (.build [(.int .i64 0),(.int .i64 0),(.int .u64 0),.nilS,(.int .i64 0)] [(1,1,(.t 30)),(4,1,(.t 31))]),oo 10 (.alloc [(.int .i64 0),(.int .i64 0),(.int .u64 0),.nilS,(.int .i64 0)]),a4m 5 10 32] [0,1,4,7,8,10]
def r_af_5:=rg [
a4h 33 7,oo 34 (.bin .shr (.t 33) (.c (.int .u64 3))),oo 35 (.bin .lss (.t 34) (.c (.int .u64 1))),a4h 36 35,a39 37 36 false 7,og 38 36 false (.bin .shr (.t 37) (.c (.int .u64 3))),og 39 36 false (.bin .gtr (.t 38) (.c (.int .u64 536870911))),a4l 40 36 39] [0,1,4,7,8,10,40]
def r_af_6:=rg [
oo 41 (.build [(.int .i64 0),(.int .i64 0),(.int .u64 0),.nilS,(.int .i64 0)] []),a4m 5 4 41,a33 5 0,a33 6 2] [4,5,6]
def r_af_7:=rg [
a4h 42 7,oo 43 (.bin .shr (.t 42) (.c (.int .u64 3))),oo 44 (.cvInt .i64 (.t 43)),a37 45 0 10,a4m 1 45 44] [0,1,4,8,10]
def r_af_8:=rg [
a33 11 0] [0,1,4,8,10,11]
def r_af_9:=rg [
a37 46 1 10,a4f 47 46] [0,1,4,8,10,11,47]
def axr:=rg [
a34 49 .eql 47 0,a4n 48 49] [0,1,4,8,10,11,47,48]
def axq:=rg [
a34 50 .eql 47 2,a4n 48 50] [0,1,4,8,10,11,47,48]
def axp:=rg [
a34 52 .eql 47 1,a4n 51 52] [0,1,4,8,10,11,47,51]
def axo:=rg [
a34 54 .eql 47 5,a4n 53 54] [0,1,4,8,10,11,53]
def axn:=rg [
a4h 56 0,a4h 57 1,a4h 58 8,a35 59 .add 57 58,a36 60 n_a9 [(.t 56),(.t 59)],a4h 55 60,a4o 61 55 0,a4o 62 55 1,a4o 63 55 2,a4n 12 61,a4n 13 62,a4n 14 63] [0,1,4,8,10,12,13,14]
def axm:=rg [
a4h 64 14,a34 65 .neq 64 0] [0,1,4,8,10,12,13,14,65]
def axl:=rg [
oo 66 (.build [(.int .i64 0),(.int .i64 0),(.int .u64 0),.nilS,(.int .i64 0)] []),a4h 67 14,a4m 5 4 66,a33 5 0,a4n 6 67] [4,5,6]
def axk:=rg [
a4h 68 8,a4h 69 13,a35 70 .add 68 69,a4n 8 70] [0,1,4,8,10,12]
def axj:=rg [
a37 71 1 10,a4f 72 71,a34 73 .eql 72 0] [0,1,4,8,10,12,73]
def axi:=rg [
a4h 74 12,a37 75 2 10,a4m 1 75 74] [4,8,10]
def axh:=rg [
a4g 76 5 10,a4h 77 8,a4m 5 4 76,a4n 5 77,a33 6 0] [4,5,6]
def axg:=rg [
a4h 78 12,a4h 79 0,a4e 80 false 79,a4h 81 1,a35 82 .sub 80 81,a4h 83 8,a35 84 .sub 82 83,oo 85 (.cvInt .u64 (.t 84)),a35 86 .gtr 78 85] [0,1,4,8,10,12,86]
def axf:=rg [
oo 87 (.build [(.int .i64 0),(.int .i64 0),(.int .u64 0),.nilS,(.int .i64 0)] []),a4m 5 4 87,a33 5 0,a33 6 3] [4,5,6]
def axe:=rg [
a4h 88 0,a4h 89 1,a4h 90 8,a35 91 .add 89 90,a4h 92 1,a4h 93 8,a35 94 .add 92 93,a4h 95 12,oo 96 (.cvInt .i64 (.t 95)),a35 97 .add 94 96,oo 98 (.slice 1 (.t 88) (some (.t 91)) (some (.t 97)) none),a36 99 n_az [(.t 98)],a36 100 n_bw [(.t 99)],a37 101 3 10,a4m 1 101 100] [4,8,10,12]
def axd:=rg [
a4g 102 5 10,a4h 103 8,a4h 104 12,oo 105 (.cvInt .i64 (.t 104)),a35 106 .add 103 105,a4m 5 4 102,a4n 5 106,a33 6 0] [4,5,6]
def axc:=rg [
a4h 107 11,a34 108 .add 107 4,a4n 11 108] [0,1,4,8,10,11]
def axb:=rg [
a4h 109 11,a34 110 .add 109 4,a4n 11 110] [0,1,4,8,10,11]
def axa:=rg [
oo 111 (.build [(.int .i64 0),(.int .i64 0),(.int .u64 0),.nilS,(.int .i64 0)] []),a4m 5 4 111,a33 5 0,a33 6 2] [4,5,6]
def aw9:=rg [
a4h 112 11,a4h 113 0,a4e 114 false 113,a4h 115 1,a35 116 .sub 114 115,a4h 117 8,a35 118 .sub 116 117,a35 119 .gtr 112 118] [0,1,4,8,10,11,119]
def aw8:=rg [
oo 120 (.build [(.int .i64 0),(.int .i64 0),(.int .u64 0),.nilS,(.int .i64 0)] []),a4m 5 4 120,a33 5 0,a33 6 3] [4,5,6]
def aw7:=rg [
a4h 121 0,a4h 122 1,a4h 123 8,a35 124 .add 122 123,a4h 125 1,a4h 126 8,a35 127 .add 125 126,a4h 128 11,a35 129 .add 127 128,oo 130 (.slice 1 (.t 121) (some (.t 124)) (some (.t 129)) none),a4e 131 false 130,oo 132 (.mv (ci 0))] [4,8,10,11,130,131,132]
def af6:=rg [
a35 133 .lss 132 131] [4,8,10,11,130,131,132,133]
def af5:=rg [
a4h 134 132,a4c 135 1 130 132,a4f 136 135,a4n 15 134,a4n 16 136] [4,8,10,11,15,16,130,131,132]
@[go_sem] def aal:Ops:=[
a37 137 2 10,a4f 138 137,a4h 139 16,oo 140 (.cvInt .u64 (.t 139)),a4h 141 15,oo 142 (.bin .mul (ci 8) (.t 141)),a35 143 .shl 140 142,a35 144 .or 138 143,a37 145 2 10,a4m 1 145 144]
def aam:List (Nat×Nat):=[(0,2),(1,2),(0,3),(1,3),(0,4),(1,4),(2,4),(3,4),(0,5),(1,5),(2,5),(3,5),(0,6),(1,6)]
def af4:ICode:= .region aal aam [4,8,10,11,130,131,132]
@[go_sem] theorem r_af_33_u:Gu X K s af4 aam aal [4,8,10,11,130,131,132]:=go_regionU' _ _ _ _
def af3:=rg [
a34 146 .add 132 1,a4h 132 146] [4,8,10,11,130,131,132]
def aie:ICode:=(.seq af6 (.seq (.cond (.t 133) .skip (.exit 5)) (.seq (.block 6 (.seq af5 af4)) af3)))
def a2e:=a4a aie.eq_1
def af2:=rg [
a4g 147 5 10,a4h 148 8,a4h 149 11,a35 150 .add 148 149,a4m 5 4 147,a4n 5 150,a33 6 0] [4,5,6]
def c_af:ICode:=(.seq r_af_0 (.seq r_af_1 (.seq r_af_2 (.cond (.t 25) (.seq r_af_3 .ret) (.seq r_af_4 (.seq r_af_5 (.cond (.t 40) (.seq r_af_6 .ret) (.seq r_af_7 (.seq r_af_8 (.seq (.seq r_af_9 (.block 0 (.seq (.block 4 (.seq (.block 3 (.seq (.block 2 (.seq (.block 1 (.seq (.seq (.seq (.seq axr (.cond (.t 48) .skip axq)) (.cond (.t 48) (.exit 1) .skip)) (.seq (.seq axp (.cond (.t 51) (.exit 2) .skip)) (.seq axo (.cond (.t 53) (.exit 3) .skip)))) (.exit 4))) (.seq (.seq axn (.seq (.seq axm (.cond (.t 65) (.seq axl .ret) .skip)) (.seq axk (.seq (.seq axj (.cond (.t 73) (.seq axi (.seq axh .ret)) .skip)) (.seq (.seq axg (.cond (.t 86) (.seq axf .ret) .skip)) (.seq axe (.seq axd .ret))))))) (.exit 0)))) axc)) (.seq axb (.exit 0)))) (.seq (.seq axa .ret) (.exit 0))))) (.seq aw9 (.cond (.t 119) (.seq aw8 .ret) (.seq (.seq aw7 (.block 5 (.loop aie))) (.seq af2 .ret))))))))))))))
def i_af:IFunc:=⟨2,[.cell 4 (some 5),.t 5,.t 6],c_af⟩
def a_af:=zzy (zzz 34 [af3,.ret,af5,af6,aw7,aw8,aw9,axa,axb,axc,axd,axe,axf,axg,axh,axi,axj,axk,axl,axm,axn,axo,axp,axq,axr,r_af_9,r_af_8,r_af_7,r_af_6,r_af_5,r_af_4,r_af_3,r_af_2,r_af_1,r_af_0]++[(35,[4,5,6]),(33,[4,8,10,11,130,131,132])])
def r_a8_0:=rg [
oo 2 (.asg (.c .nilS)),a33 3 0] [0]
def r_a8_1:=rg [
a4h 9 0,a4e 10 false 9,a34 11 .gtr 10 262144] [0,11]
def r_a8_2:=rg [
oo 2 (.asg (.c .nilS)),a33 3 4] [2,3]
def r_a8_3:=rg [
oo 4 (.asg (.c .nilS))] [0,4]
def r_a8_4:=rg [
a33 5 0] [0,4,5]
def azg:=rg [
a4h 12 5,a4h 13 0,a4e 14 false 13,a35 15 .lss 12 14] [0,4,5,15]
def azf:=rg [
a4h 16 4,a4e 17 false 16,a34 18 .geq 17 4096] [0,4,5,18]
def aze:=rg [
oo 2 (.asg (.c .nilS)),a33 3 4] [2,3]
def azd:=rg [
a4h 20 0,a4h 21 5,a36 22 n_af [(.t 20),(.t 21)],a4h 19 22,a4o 23 19 0,a4o 24 19 1,a4o 25 19 2,oo 6 (.alloc [(.int .i64 0),(.int .i64 0),(.int .u64 0),.nilS,(.int .i64 0)]),a4m 5 6 23,a4n 7 24,a4n 8 25] [0,4,5,6,7,8]
def azc:=rg [
a4h 26 8,a34 27 .neq 26 0] [0,4,5,6,7,8,27]
def ahi:=rg [
a4h 28 8,oo 2 (.asg (.c .nilS)),a4n 3 28] [2,3]
def ahh:=rg [
a4h 29 4,a4g 30 5 6,oo 31 (.lit false 5 1 (.agg [(.int .i64 0),(.int .i64 0),(.int .u64 0),(.sl []),(.int .i64 0)]) [(0,(.t 30))]),oo 32 (.append 5 56 (.t 29) (.t 31)),a4n 4 32] [0,4,5,7]
def ahg:=rg [
a4h 33 5,a4h 34 7,a35 35 .add 33 34,a4n 5 35] [0,4,5]
def aim:ICode:=(.seq (.seq azg (.cond (.t 15) .skip (.exit 0))) (.block 1 (.seq (.seq azf (.cond (.t 18) (.seq aze .ret) .skip)) (.seq (.seq (.free 6) azd) (.seq (.seq azc (.cond (.t 27) (.seq ahi .ret) .skip)) (.seq ahh ahg))))))
def a2f:=a4a aim.eq_1
def ahf:=rg [
a4h 36 4,a36 37 n_cf [(.t 36)],a4n 2 37,a33 3 0] [2,3]
def c_a8:ICode:=(.seq r_a8_0 (.seq r_a8_1 (.cond (.t 11) (.seq r_a8_2 .ret) (.seq r_a8_3 (.seq (.seq r_a8_4 (.block 0 (.loop aim))) (.seq ahf .ret))))))
def i_a8:IFunc:=⟨1,[.t 2,.t 3],c_a8⟩
def a_a8:Advice:=⟨[32],zzz 12 [ahg,ahh,ahi,azc,azd,aze,azf,azg,r_a8_4,r_a8_3,r_a8_2,r_a8_1,r_a8_0]++[(13,[2,3])],[],[(8,[6])],[],[]⟩
def r_aq_0:=rg [
oo 2 (.alloc [(.int .i64 0),(.int .i64 0),(.int .i64 0),(.int .i64 0)]),a33 3 0] [0,2]
def r_aq_1:=rg [
a4h 19 0,a36 20 n_a8 [(.t 19)],a4h 18 20,a4o 21 18 0,a4o 22 18 1,a4n 4 21,a4n 5 22] [2,4,5]
def r_aq_2:=rg [
a4h 23 5,a34 24 .neq 23 0] [2,4,5,24]
@[go_sem] def r_aq_3_o:Ops:=[
oo 25 (.build [(.int .i64 0),(.int .i64 0),(.int .i64 0),(.int .i64 0)] []),a4h 26 5,a4m 4 2 25,a4n 3 26]
def r_aq_3:=rg r_aq_3_o [2,3]
def r_aq_4:=rg [
a4h 28 4,a36 29 n_bt [(.t 28),(ci 8000)],a4h 27 29,a4o 30 27 0,a4o 31 27 1,a4n 6 30,a4n 7 31] [2,4,6]
def r_aq_5:=rg [
a4h 33 4,a36 34 n_br [(.t 33),(ci 1)],a4h 32 34,a4o 35 32 0,a4o 36 32 1,a4n 8 35,a4n 9 36] [2,4,6,8,9]
def r_aq_6:=rg [
a4h 38 4,a36 39 n_br [(.t 38),(ci 2)],a4h 37 39,a4o 40 37 0,a4o 41 37 1,a4n 10 40,a4n 11 41] [2,4,6,8,9,10]
def r_aq_7:=rg [
a4h 43 4,a36 44 n_br [(.t 43),(ci 3)],a4h 42 44,a4o 45 42 0,a4o 46 42 1,a4n 12 45,a4n 13 46] [2,4,6,8,9,10,12]
def r_aq_8:=rg [
a4h 48 4,a36 49 n_br [(.t 48),(ci 5)],a4h 47 49,a4o 50 47 0,a4o 51 47 1,a4n 14 50,a4n 15 51] [2,6,8,9,10,12,14]
def r_aq_9:=rg [
a4h 53 10,a36 54 n_bq [(.t 53)],a4h 52 54,a4o 55 52 0,a4o 56 52 1,a4n 16 55,a4n 17 56] [2,6,8,9,10,12,14,16,17]
def aui:=rg [
a4h 58 6,oo 59 (.b2s (.t 58)),oo 60 (.bin .neq (.t 59) (.c (.str [79,82,67]))),a4h 61 60,a39 62 61 false 9,og 63 61 false (.un .not (.t 62)),a4l 64 61 63,a4n 57 64] [2,8,10,12,14,16,17,57]
@[go_sem] def auh:Ops:=[
oo 65 (.build [(.int .i64 0),(.int .i64 0),(.int .i64 0),(.int .i64 0)] []),a4m 4 2 65,a33 3 2]
def r_aq_11:=rg auh [2,3]
def aug:=rg [
a4h 67 8,oo 68 (.bin .gtr (.t 67) (.c (.int .u64 65536))),a4h 69 68,a39 70 69 false 14,og 71 69 false (.bin .gtr (.t 70) (.c (.int .u64 65536))),a4l 72 69 71,a4n 66 72] [2,8,10,12,14,16,17,66]
@[go_sem] def auf:Ops:=[
oo 73 (.build [(.int .i64 0),(.int .i64 0),(.int .i64 0),(.int .i64 0)] []),a4m 4 2 73,a33 3 4]
def r_aq_13:=rg auf [2,3]
def aue:=rg [
a4h 75 16,a4j 76 75,a4n 74 76] [2,8,10,12,14,17,74]
@[go_sem] def aud:Ops:=[
oo 77 (.build [(.int .i64 0),(.int .i64 0),(.int .i64 0),(.int .i64 0)] []),a4m 4 2 77,a33 3 7]
def r_aq_15:=rg aud [2,3]
def auc:=rg [
a4h 79 17,a4j 80 79,a4n 78 80] [2,8,10,12,14,78]
def aub:=rg [
oo 12 (.asg (.c (.int .u64 0)))] [2,8,10,12,14]
@[go_sem] def aua:Ops:=[
a4h 82 12,oo 83 (.bin .lss (.t 82) (.c (.int .u64 64))),a4h 84 83,a39 85 84 false 12,og 86 84 false (.bin .gtr (.t 85) (.c (.int .u64 65536))),a4l 87 84 86,a4n 81 87]
def r_aq_18:=rg aua [2,8,10,12,14,81]
@[go_sem] def at9:Ops:=[
oo 88 (.build [(.int .i64 0),(.int .i64 0),(.int .i64 0),(.int .i64 0)] []),a4m 4 2 88,a33 3 2]
def r_aq_19:=rg at9 [2,3]
def at8:=rg [
a4h 89 8,oo 90 (.cvInt .i64 (.t 89)),a4h 91 10,oo 92 (.cvInt .i64 (.t 91)),a4h 93 12,oo 94 (.cvInt .i64 (.t 93)),a4h 95 14,oo 96 (.cvInt .i64 (.t 95)),oo 97 (.build [(.int .i64 0),(.int .i64 0),(.int .i64 0),(.int .i64 0)] [(0,1,(.t 90)),(1,1,(.t 92)),(2,1,(.t 94)),(3,1,(.t 96))]),a4m 4 2 97,a33 3 0] [2,3]
def c_aq:ICode:=(.seq r_aq_0 (.seq r_aq_1 (.seq r_aq_2 (.cond (.t 24) (.seq r_aq_3 .ret) (.seq r_aq_4 (.seq r_aq_5 (.seq r_aq_6 (.seq r_aq_7 (.seq r_aq_8 (.seq r_aq_9 (.seq (.block 0 (.seq aui (.cond (.t 57) (.seq r_aq_11 .ret) (.seq aug (.cond (.t 66) (.seq r_aq_13 .ret) (.seq aue (.cond (.t 74) (.seq r_aq_15 .ret) (.seq auc (.cond (.t 78) aub (.seq r_aq_18 (.cond (.t 81) (.seq r_aq_19 .ret) .skip))))))))))) (.seq at8 .ret))))))))))))
def i_aq:IFunc:=⟨1,[.cell 2 (some 4),.t 3],c_aq⟩
def a_aq:=zzy (zzz 20 [at8,.ret,.ret,aub,auc,.ret,aue,.ret,aug,.ret,aui,r_aq_9,r_aq_8,r_aq_7,r_aq_6,r_aq_5,r_aq_4,.ret,r_aq_2,r_aq_1,r_aq_0]++[(11,[2,3]),(13,[2,3]),(15,[2,3]),(19,[2,3]),(18,[2,8,10,12,14,81]),(3,[2,3])])
def r_az_0:=rg [
oo 2 (.asg (.c .nilS))] [0]
def r_az_1:=rg [
a4h 3 0,oo 4 (.isNil false (.t 3))] [0,4]
@[go_sem] def r_az_2_o:Ops:=[
oo 2 (.asg (.c .nilS))]
def r_az_2:=rg r_az_2_o [2]
def r_az_3:=rg [
oo 5 (.lit true 1 0 (.int .u8 0) []),a4h 6 0,oo 7 (.append 1 1 (.t 5) (.t 6)),a4n 2 7] [2]
def c_az:ICode:=(.seq r_az_0 (.seq r_az_1 (.cond (.t 4) (.seq r_az_2 .ret) (.seq r_az_3 .ret))))
def i_az:IFunc:=⟨1,[.t 2],c_az⟩
def a_az:Advice:=⟨[5],zzz 3 [r_az_3,.ret,r_az_1,r_az_0]++[(2,[2])],[],[],[],[]⟩
def r_bo_0:=rg [
a32 4 false] [0,1]
def r_bo_1:=rg [
a4h 5 0,oo 6 (.b2s (.t 5)),a4h 7 1,oo 8 (.b2s (.t 7)),a35 9 .eql 6 8,a4n 4 9] [4]
def c_bo:ICode:=(.seq r_bo_0 (.seq r_bo_1 .ret))
def i_bo:IFunc:=⟨2,[.t 4],c_bo⟩
def a_bo:=zzy (zzz 1 [r_bo_1,r_bo_0])
def r_bk_0:=rg [
a32 4 false] [0,1]
def r_bk_1:=rg [
a4h 5 0,a4e 6 false 5,a4h 7 1,a4e 8 false 7,a35 9 .geq 6 8,a4h 10 9,a39 11 10 true 0,a39 12 10 true 1,og 13 10 true (.len false (.t 12)),og 14 10 true (.slice 1 (.t 11) none (some (.t 13)) none),a39 15 10 true 1,og 16 10 true (.call false n_bo [(.t 14),(.t 15)]),a4k 17 10 16,a4n 4 17] [4]
def c_bk:ICode:=(.seq r_bk_0 (.seq r_bk_1 .ret))
def i_bk:IFunc:=⟨2,[.t 4],c_bk⟩
def a_bk:=zzy (zzz 1 [r_bk_1,r_bk_0])
def r_bd_0:=rg [
oo 2 (.asg (.c .nilS)),a33 3 0,a33 4 0] [0]
def r_bd_1:=rg [
a4h 7 0,a4e 8 false 7,a34 9 .eql 8 0] [0,9]
@[go_sem] def r_bd_2_o:Ops:=[
oo 2 (.asg (.c .nilS)),a33 3 0,a33 4 3]
def r_bd_2:=rg r_bd_2_o [2,3,4]
def r_bd_3:=rg [
a4h 10 0,a4e 11 false 10,a34 12 .sub 11 1,a4n 5 12] [0,5]
def r_bd_4:=rg [
a4h 13 0,a4h 14 5,a4c 15 1 13 14,a4f 16 15,oo 17 (.cvInt .i64 (.t 16)),a4n 6 17] [0,5,6]
def r_bd_5:=rg [
a4h 19 5,a4h 20 6,a35 21 .sub 19 20,a34 22 .lss 21 3,a4n 18 22] [0,5,6,18]
@[go_sem] def r_bd_6_o:Ops:=[
oo 2 (.asg (.c .nilS)),a33 3 0,a33 4 3]
def r_bd_6:=rg r_bd_6_o [2,3,4]
def r_bd_7:=rg [
a4h 24 6,a34 25 .eql 24 0,a4h 26 25,a39 27 26 false 0,og 28 26 false (.lit true 1 3 (.int .u8 0) [(0,(.c (.int .u8 79))),(1,(.c (.int .u8 82))),(2,(.c (.int .u8 67)))]),og 29 26 false (.cvB false (.t 28)),og 30 26 false (.call false n_bk [(.t 27),(.t 29)]),og 31 26 false (.un .not (.t 30)),a4l 32 26 31,a4n 23 32] [0,5,6,23]
@[go_sem] def r_bd_8_o:Ops:=[
oo 2 (.asg (.c .nilS)),a33 3 0,a33 4 2]
def r_bd_8:=rg r_bd_8_o [2,3,4]
def r_bd_9:=rg [
a4h 33 0,a4h 34 5,a4h 35 6,a35 36 .sub 34 35,a4h 37 5,oo 38 (.slice 1 (.t 33) (some (.t 36)) (some (.t 37)) none),a36 39 n_az [(.t 38)],a36 40 n_bw [(.t 39)],a4h 41 5,a4h 42 6,a35 43 .sub 41 42,a4n 2 40,a4n 3 43,a33 4 0] [2,3,4]
def c_bd:ICode:=(.seq r_bd_0 (.seq r_bd_1 (.cond (.t 9) (.seq r_bd_2 .ret) (.seq r_bd_3 (.seq r_bd_4 (.seq (.block 0 (.seq r_bd_5 (.cond (.t 18) (.seq r_bd_6 .ret) (.seq r_bd_7 (.cond (.t 23) (.seq r_bd_8 .ret) .skip))))) (.seq r_bd_9 .ret)))))))
def i_bd:IFunc:=⟨1,[.t 2,.t 3,.t 4],c_bd⟩
def a_bd:Advice:=⟨[28],zzz 9 [r_bd_9,.ret,r_bd_7,.ret,r_bd_5,r_bd_4,r_bd_3,.ret,r_bd_1,r_bd_0]++[(6,[2,3,4]),(8,[2,3,4]),(2,[2,3,4])],[],[],[],[]⟩
def r_bc_0:=rg [
oo 2 (.alloc [(.int .i64 0),(.int .i64 0),(.int .i64 0),(.int .i64 0)]),a33 3 0,a33 4 0] [0,2]
def r_bc_1:=rg [
a4h 9 0,a4e 10 false 9,a34 11 .gtr 10 262144] [0,2,11]
@[go_sem] def r_bc_2_o:Ops:=[
oo 12 (.build [(.int .i64 0),(.int .i64 0),(.int .i64 0),(.int .i64 0)] []),a4m 4 2 12,a33 3 0,a33 4 4]
def r_bc_2:=rg r_bc_2_o [2,3,4]
def r_bc_3:=rg [
a4h 14 0,a36 15 n_bd [(.t 14)],a4h 13 15,a4o 16 13 0,a4o 17 13 1,a4o 18 13 2,a4n 5 16,a4n 6 17,a4n 7 18] [2,5,6,7]
def r_bc_4:=rg [
a4h 19 7,a34 20 .neq 19 0] [2,5,6,7,20]
@[go_sem] def r_bc_5_o:Ops:=[
oo 21 (.build [(.int .i64 0),(.int .i64 0),(.int .i64 0),(.int .i64 0)] []),a4h 22 7,a4m 4 2 21,a33 3 0,a4n 4 22]
def r_bc_5:=rg r_bc_5_o [2,3,4]
def r_bc_6:=rg [
a4h 24 5,a36 25 n_aq [(.t 24)],a4h 23 25,a4o 26 23 0,a4o 27 23 1,oo 8 (.alloc [(.int .i64 0),(.int .i64 0),(.int .i64 0),(.int .i64 0)]),a4m 4 8 26,a4n 7 27] [2,6,7,8]
def r_bc_7:=rg [
a4h 29 7,a34 30 .neq 29 0,a4n 28 30] [2,6,7,8,28]
@[go_sem] def r_bc_8_o:Ops:=[
oo 31 (.build [(.int .i64 0),(.int .i64 0),(.int .i64 0),(.int .i64 0)] []),a4h 32 7,a4m 4 2 31,a33 3 0,a4n 4 32]
def r_bc_8:=rg r_bc_8_o [2,3,4]
def r_bc_9:=rg [
a37 34 0 8,a4f 35 34,a4h 36 6,a34 37 .sub 36 3,a35 38 .gtr 35 37,a4h 39 38,og 40 39 false (.fieldA 3 (.t 8)),og 41 39 false (.load none (.t 40)),a39 42 39 false 6,og 43 39 false (.bin .sub (.t 42) (ci 3)),og 44 39 false (.fieldA 0 (.t 8)),og 45 39 false (.load none (.t 44)),og 46 39 false (.bin .sub (.t 43) (.t 45)),og 47 39 false (.bin .gtr (.t 41) (.t 46)),a4l 48 39 47,a4n 33 48] [2,6,8,33]
@[go_sem] def at0:Ops:=[
oo 49 (.build [(.int .i64 0),(.int .i64 0),(.int .i64 0),(.int .i64 0)] []),a4m 4 2 49,a33 3 0,a33 4 3]
def r_bc_10:=rg at0 [2,3,4]
def atz:=rg [
a4g 50 4 8,a4h 51 6,a4m 4 2 50,a4n 3 51,a33 4 0] [2,3,4]
def c_bc:ICode:=(.seq r_bc_0 (.seq r_bc_1 (.cond (.t 11) (.seq r_bc_2 .ret) (.seq r_bc_3 (.seq r_bc_4 (.cond (.t 20) (.seq r_bc_5 .ret) (.seq r_bc_6 (.seq (.block 0 (.seq r_bc_7 (.cond (.t 28) (.seq r_bc_8 .ret) (.seq r_bc_9 (.cond (.t 33) (.seq r_bc_10 .ret) .skip))))) (.seq atz .ret)))))))))
def i_bc:IFunc:=⟨1,[.cell 2 (some 4),.t 3,.t 4],c_bc⟩
def a_bc:=zzy (zzz 11 [atz,.ret,r_bc_9,.ret,r_bc_7,r_bc_6,.ret,r_bc_4,r_bc_3,.ret,r_bc_1,r_bc_0]++[(8,[2,3,4]),(10,[2,3,4]),(5,[2,3,4]),(2,[2,3,4])])
def r_au_0:=rg [
oo 2 (.alloc [(.int .i64 0),(.int .i64 0),(.int .i64 0),(.int .i64 0),(.int .i64 0),.nilS,(.int .i64 0),.nilS,.nilS,(.int .i64 0),(.int .i64 0),(.int .i64 0),.nilS,(.int .i64 0),.nilS,(.int .i64 0)]),oo 3 (.asg (.c .nilI))] [0,2]
def r_au_1:=rg [
a4h 12 0,a36 13 n_bc [(.t 12)],a4h 11 13,a4o 14 11 0,a4o 15 11 1,a4o 16 11 2,oo 4 (.alloc [(.int .i64 0),(.int .i64 0),(.int .i64 0),(.int .i64 0)]),a4m 4 4 14,a4n 5 15,a4n 6 16] [0,2,4,5,6]
def r_au_2:=rg [
a4h 17 6,a34 18 .neq 17 0] [0,2,4,5,6,18]
@[go_sem] def r_au_3_o:Ops:=[
oo 19 (.build [(.int .i64 0),(.int .i64 0),(.int .i64 0),(.int .i64 0),(.int .i64 0),.nilS,(.int .i64 0),.nilS,.nilS,(.int .i64 0),(.int .i64 0),(.int .i64 0),.nilS,(.int .i64 0),.nilS,(.int .i64 0)] []),a4h 20 6,a36 21 n_cg [(.c (.str [112,111,115,116])),(ci 0),(.t 20)],a4m 16 2 19,a4n 3 21]
def r_au_3:=rg r_au_3_o [2,3]
@[go_sem] def ak7:Ops:=[
a4h 23 0,a4h 24 5,a37 25 0 4,a4f 26 25,a35 27 .sub 24 26,a4h 28 5,oo 29 (.slice 1 (.t 23) (some (.t 27)) (some (.t 28)) none),a4g 30 4 4,a36 31 n_al [(.t 29),(.t 30)],a4h 22 31,a4o 32 22 0,a4o 33 22 1,oo 7 (.alloc [(.int .i64 0),.nilS,(.int .i64 0),.nilS,.nilS,(.int .i64 0),(.int .i64 0),(.int .i64 0),.nilS,(.int .i64 0),.nilS,(.int .i64 0)]),a4m 12 7 32,a4n 6 33]
def ak8:List (Nat×Nat):=[(0,1),(0,2),(1,2),(0,3),(1,3),(0,4),(0,5),(1,5),(2,5),(3,5),(4,5),(0,7),(1,7),(2,7),(3,7),(4,7),(5,7),(6,7),(10,11),(0,12),(1,12),(2,12),(3,12),(4,12),(5,12),(6,12),(7,12),(8,12),(9,12),(10,12),(11,12),(11,13)]
def r_au_4:ICode:= .region ak7 ak8 [2,4,5,6,7]
@[go_sem] theorem r_au_4_u:Gu X K s r_au_4 ak8 ak7 [2,4,5,6,7]:=go_regionU' _ _ _ _
def r_au_5:=rg [
a4h 34 6,a34 35 .neq 34 0] [2,4,5,6,7,35]
def r_au_6:=rg [
oo 36 (.build [(.int .i64 0),(.int .i64 0),(.int .i64 0),(.int .i64 0),(.int .i64 0),.nilS,(.int .i64 0),.nilS,.nilS,(.int .i64 0),(.int .i64 0),(.int .i64 0),.nilS,(.int .i64 0),.nilS,(.int .i64 0)] []),a4h 37 6,a36 38 n_cg [(.c (.str [102,111,111,116])),(ci 0),(.t 37)],a4m 16 2 36,a4n 3 38] [2,3]
def r_au_7:=rg [
a33 8 3] [2,4,5,7,8]
def r_au_8:=rg [
a37 39 1 7,a4f 40 39,a4e 41 false 40,oo 42 (.mv (ci 0))] [2,4,5,7,8,40,41,42]
def at6:=rg [
a35 43 .lss 42 41] [2,4,5,7,8,40,41,42,43]
def afm:=rg [
a4h 44 42,a4c 45 5 40 42,a4g 46 5 45,oo 10 (.alloc [(.int .i64 0),(.int .i64 0),(.int .i64 0),(.int .i64 0),(.int .i64 0)]),a4n 9 44,a4m 5 10 46] [2,4,5,7,8,9,10,40,41,42]
def afl:=rg [
a37 47 0 10,a4f 48 47,a4h 49 8,a35 50 .lss 48 49,a4h 51 50,og 52 51 false (.fieldA 0 (.t 10)),og 53 51 false (.load none (.t 52)),og 54 51 false (.fieldA 1 (.t 10)),og 55 51 false (.load none (.t 54)),og 56 51 false (.bin .add (.t 53) (.t 55)),og 57 51 false (.fieldA 2 (.t 10)),og 58 51 false (.load none (.t 57)),og 59 51 false (.bin .add (.t 56) (.t 58)),og 60 51 false (.fieldA 3 (.t 10)),og 61 51 false (.load none (.t 60)),og 62 51 false (.bin .add (.t 59) (.t 61)),a39 63 51 false 5,og 64 51 false (.fieldA 0 (.t 4)),og 65 51 false (.load none (.t 64)),og 66 51 false (.bin .sub (.t 63) (.t 65)),og 67 51 false (.fieldA 3 (.t 4)),og 68 51 false (.load none (.t 67)),og 69 51 false (.bin .sub (.t 66) (.t 68)),og 70 51 false (.bin .gtr (.t 62) (.t 69)),a4l 71 51 70] [2,4,5,7,9,10,40,41,42,71]
def afk:=rg [
oo 72 (.build [(.int .i64 0),(.int .i64 0),(.int .i64 0),(.int .i64 0),(.int .i64 0),.nilS,(.int .i64 0),.nilS,.nilS,(.int .i64 0),(.int .i64 0),(.int .i64 0),.nilS,(.int .i64 0),.nilS,(.int .i64 0)] []),a4h 73 9,a36 74 n_cg [(.c (.str [115,116,114,105,112,101])),(.t 73),(ci 2)],a4m 16 2 72,a4n 3 74] [2,3]
def afj:=rg [
a37 75 0 10,a4f 76 75,a37 77 1 10,a4f 78 77,a35 79 .add 76 78,a37 80 2 10,a4f 81 80,a35 82 .add 79 81,a37 83 3 10,a4f 84 83,a35 85 .add 82 84,a4n 8 85] [2,4,5,7,8,40,41,42]
def afi:=rg [
a34 86 .add 42 1,a4h 42 86] [2,4,5,7,8,40,41,42]
def ma:ICode:=(.seq at6 (.seq (.cond (.t 43) .skip (.exit 0)) (.seq (.block 1 (.seq (.seq (.free 10) afm) (.seq (.seq afl (.cond (.t 71) (.seq afk .ret) .skip)) afj))) afi)))
def a2g:=a4a ma.eq_1
def at7:=rg [
a4g 87 4 4,a4g 88 12 7,oo 89 (.build [(.int .i64 0),(.int .i64 0),(.int .i64 0),(.int .i64 0),(.int .i64 0),.nilS,(.int .i64 0),.nilS,.nilS,(.int .i64 0),(.int .i64 0),(.int .i64 0),.nilS,(.int .i64 0),.nilS,(.int .i64 0)] [(0,4,(.t 87)),(4,12,(.t 88))]),a4m 16 2 89,oo 3 (.asg (.c .nilI))] [2,3]
def c_au:ICode:=(.seq r_au_0 (.seq r_au_1 (.seq r_au_2 (.cond (.t 18) (.seq r_au_3 .ret) (.seq r_au_4 (.seq r_au_5 (.cond (.t 35) (.seq r_au_6 .ret) (.seq r_au_7 (.seq (.seq r_au_8 (.block 0 (.loop ma))) (.seq at7 .ret))))))))))
def i_au:IFunc:=⟨1,[.cell 2 (some 16),.t 3],c_au⟩
def a_au:Advice:=⟨[],zzz 14 [afi,afj,afk,afl,afm,at6,r_au_8,r_au_7,r_au_6,r_au_5,.ret,.ret,r_au_2,r_au_1,r_au_0]++[(15,[2,3]),(4,[2,4,5,6,7]),(3,[2,3])],[],[(10,[10])],[],[]⟩
def r_ap_0:=rg [
oo 1 (.box 4 (.t 0)),oo 2 (.asg (.c .nilS)),a33 3 0] [1]
def r_ap_1:=rg [
a37 5 1 1,a4f 6 5,a34 7 .neq 6 0,a4h 8 7,og 9 8 true (.fieldA 1 (.t 1)),og 10 8 true (.load none (.t 9)),og 11 8 true (.bin .neq (.t 10) (ci 4)),a4k 12 8 11] [1,12]
@[go_sem] def r_ap_2_o:Ops:=[
oo 2 (.asg (.c .nilS)),a33 3 7]
def r_ap_2:=rg r_ap_2_o [2,3]
def r_ap_3:=rg [
a37 13 0 1,a4f 14 13,a34 15 .lss 14 0,a4h 16 15,og 17 16 false (.fieldA 0 (.t 1)),og 18 16 false (.load none (.t 17)),og 19 16 false (.bin .gtr (.t 18) (ci 65536)),a4l 20 16 19,a4h 21 20,og 22 21 false (.fieldA 3 (.t 1)),og 23 21 false (.load none (.t 22)),og 24 21 false (.bin .lss (.t 23) (ci 0)),a4l 25 21 24,a4h 26 25,og 27 26 false (.fieldA 3 (.t 1)),og 28 26 false (.load none (.t 27)),og 29 26 false (.bin .gtr (.t 28) (ci 65536)),a4l 30 26 29,a4h 31 30,og 32 31 false (.fieldA 1 (.t 1)),og 33 31 false (.load none (.t 32)),og 34 31 false (.bin .eql (.t 33) (ci 4)),a39 35 31 false 34,og 36 35 true (.fieldA 2 (.t 1)),og 37 35 true (.load none (.t 36)),og 38 35 true (.bin .lss (.t 37) (ci 64)),a39 39 35 true 38,og 40 39 false (.fieldA 2 (.t 1)),og 41 39 false (.load none (.t 40)),og 42 39 false (.bin .gtr (.t 41) (ci 65536)),og 43 35 true (.pick (.t 39) (.c (.bool true)) (.t 42)),og 44 31 false (.pick (.t 35) (.t 43) (.c (.bool false))),a4l 45 31 44,a4h 46 45,og 47 46 false (.fieldA 1 (.t 1)),og 48 46 false (.load none (.t 47)),og 49 46 false (.bin .eql (.t 48) (ci 0)),a39 50 46 false 49,og 51 50 true (.fieldA 2 (.t 1)),og 52 50 true (.load none (.t 51)),og 53 50 true (.bin .neq (.t 52) (ci 0)),og 54 46 false (.pick (.t 50) (.t 53) (.c (.bool false))),a4l 55 46 54] [1,55]
@[go_sem] def r_ap_4_o:Ops:=[
oo 2 (.asg (.c .nilS)),a33 3 1]
def r_ap_4:=rg r_ap_4_o [2,3]
def r_ap_5:=rg [
a37 56 0 1,a4f 57 56,oo 58 (.cvInt .u64 (.t 57)),oo 59 (.callg true n_av [(.c .nilS),(ci 1),(.t 58)] 0),a4n 4 59] [1,4]
def r_ap_6:=rg [
a4h 60 4,a37 61 1 1,a4f 62 61,oo 63 (.cvInt .u64 (.t 62)),oo 64 (.callg true n_av [(.t 60),(ci 2),(.t 63)] 0),a4n 4 64] [1,4]
def r_ap_7:=rg [
a4h 65 4,a37 66 2 1,a4f 67 66,oo 68 (.cvInt .u64 (.t 67)),oo 69 (.callg true n_av [(.t 65),(ci 3),(.t 68)] 0),a4n 4 69] [1,4]
def r_ap_8:=rg [
a4h 70 4,oo 71 (.lit false 1 2 (.int .u8 0) [(0,(.c (.int .u8 0))),(1,(.c (.int .u8 12)))]),oo 72 (.callg true n_ax [(.t 70),(ci 4),(.t 71)] 0),a4n 4 72] [1,4]
def r_ap_9:=rg [
a4h 73 4,a37 74 3 1,a4f 75 74,oo 76 (.cvInt .u64 (.t 75)),oo 77 (.callg true n_av [(.t 73),(ci 5),(.t 76)] 0),a4n 4 77] [4]
def auk:=rg [
a4h 78 4,oo 79 (.callg true n_av [(.t 78),(ci 6),(.c (.int .u64 1))] 0),a4n 4 79] [4]
def auj:=rg [
a4h 80 4,oo 81 (.lit true 1 3 (.int .u8 0) [(0,(.c (.int .u8 79))),(1,(.c (.int .u8 82))),(2,(.c (.int .u8 67)))]),oo 82 (.cvB false (.t 81)),oo 83 (.callg true n_ax [(.t 80),(ci 8000),(.t 82)] 0),a4n 2 83,a33 3 0] [2,3]
def c_ap:ICode:=(.seq r_ap_0 (.seq r_ap_1 (.cond (.t 12) (.seq r_ap_2 .ret) (.seq r_ap_3 (.cond (.t 55) (.seq r_ap_4 .ret) (.seq r_ap_5 (.seq r_ap_6 (.seq r_ap_7 (.seq r_ap_8 (.seq r_ap_9 (.seq auk (.seq auj .ret))))))))))))
def i_ap:IFunc:=⟨1,[.t 2,.t 3],c_ap⟩
def a_ap:Advice:=⟨[59,64,69,72,77,79,81,83],zzz 11 [auj,auk,r_ap_9,r_ap_8,r_ap_7,r_ap_6,r_ap_5,.ret,r_ap_3,.ret,r_ap_1,r_ap_0]++[(4,[2,3]),(2,[2,3])],[],[],[(59,0),(64,0),(69,0),(72,0),(77,0),(79,0),(83,0)],[]⟩
def r_am_0:=rg [
oo 6 (.asg (.c .nilS)),a33 7 0] [0,1,2]
def r_am_1:=rg [
a4h 11 1,a34 12 .neq 11 0,a4h 13 12,a39 14 13 true 1,og 15 13 true (.bin .neq (.t 14) (ci 4)),a4k 16 13 15] [0,1,2,16]
@[go_sem] def r_am_2_o:Ops:=[
oo 6 (.asg (.c .nilS)),a33 7 7]
def r_am_2:=rg r_am_2_o [6,7]
def r_am_3:=rg [
a4h 17 2,a34 18 .lss 17 1,a4h 19 18,a39 20 19 false 2,og 21 19 false (.bin .gtr (.t 20) (ci 65536)),a4l 22 19 21] [0,1,2,22]
@[go_sem] def r_am_4_o:Ops:=[
oo 6 (.asg (.c .nilS)),a33 7 1]
def r_am_4:=rg r_am_4_o [6,7]
def r_am_5:=rg [
a4h 23 1,a34 24 .eql 23 0] [0,2,24]
def r_am_6:=rg [
oo 25 (.lit true 1 0 (.int .u8 0) []),a4h 26 0,oo 27 (.append 1 1 (.t 25) (.t 26)),a4n 6 27,a33 7 0] [6,7]
@[go_sem] def r_am_7_o:Ops:=[
oo 8 (.asg (.c .nilS))]
def r_am_7:=rg r_am_7_o [0,2,8]
@[go_sem] def r_am_8_o:Ops:=[
a33 9 0]
def r_am_8:=rg r_am_8_o [0,2,8,9]
@[go_sem] def r_am_9_o:Ops:=[
a4h 28 9,a4h 29 0,a4e 30 false 29,a35 31 .lss 28 30]
def r_am_9:=rg r_am_9_o [0,2,8,9,31]
@[go_sem] def au4:Ops:=[
a4h 35 9,a4h 36 2,a35 37 .add 35 36,a4n 10 37]
def au5:=rg au4 [0,2,8,9,10]
@[go_sem] def au2:Ops:=[
a4h 38 10,a4h 39 0,a4e 40 false 39,a35 41 .gtr 38 40]
def au3:=rg au2 [0,2,8,9,10,41]
@[go_sem] def au0:Ops:=[
a4h 42 0,a4e 43 false 42,a4n 10 43]
def au1:=rg au0 [0,2,8,9,10]
@[go_sem] def aux:Ops:=[
a4h 44 8,a4h 45 10,a4h 46 9,a35 47 .sub 45 46,a36 48 n_cr [(.t 47),(.c (.bool true))],oo 49 (.append 1 1 (.t 44) (.t 48)),a4h 50 0,a4h 51 9,a4h 52 10,oo 53 (.slice 1 (.t 50) (some (.t 51)) (some (.t 52)) none),oo 54 (.append 1 1 (.t 49) (.t 53)),a4n 8 54]
def auy:List (Nat×Nat):=[(0,1),(0,2),(1,2),(0,3),(0,4),(0,6),(1,6),(2,6),(3,6),(4,6),(5,6),(0,7),(1,7),(2,7),(3,7),(4,7),(5,7),(6,7),(0,8),(1,8),(2,8),(3,8),(4,8),(5,8),(6,8),(7,8),(0,9),(1,9),(2,9),(3,9),(4,9),(5,9)]
def auz:ICode:= .region aux auy [0,2,8,9]
@[go_sem] def auv:Ops:=[
a4h 32 9,a4h 33 2,a35 34 .add 32 33,a4n 9 34]
def auw:=rg auv [0,2,8,9]
def a1u:ICode:=(.seq (.seq r_am_9 (.cond (.t 31) .skip (.exit 0))) (.seq (.block 1 (.seq au5 (.seq (.seq au3 (.cond (.t 41) au1 .skip)) auz))) auw))
def a2h:=a4a a1u.eq_1
@[go_sem] def auu:Ops:=[
a4h 55 8,a4n 6 55,a33 7 0]
def r_am_16:=rg auu [6,7]
def c_am:ICode:=(.seq r_am_0 (.seq r_am_1 (.cond (.t 16) (.seq r_am_2 .ret) (.seq r_am_3 (.cond (.t 22) (.seq r_am_4 .ret) (.seq r_am_5 (.cond (.t 24) (.seq r_am_6 .ret) (.seq r_am_7 (.seq (.seq r_am_8 (.block 0 (.loop a1u))) (.seq r_am_16 .ret))))))))))
def i_am:IFunc:=⟨3,[.t 6,.t 7],c_am⟩
def a_am:Advice:=⟨[25,49,54],zzz 6 [r_am_6,r_am_5,.ret,r_am_3,.ret,r_am_1,r_am_0]++[(15,[6,7]),(10,[0,2,8,9]),(14,[0,2,8,9]),(13,[0,2,8,9,10]),(12,[0,2,8,9,10,41]),(11,[0,2,8,9,10]),(9,[0,2,8,9,31]),(8,[0,2,8,9]),(7,[0,2,8]),(4,[6,7]),(2,[6,7])],[],[],[],[]⟩
def r_ay_0:=rg [
oo 4 (.box 12 (.t 1)),oo 5 (.box 6 (.t 2)),oo 6 (.asg (.c .nilS))] [0,4,5]
def r_ay_1:=rg [
a4g 15 12 4,a36 16 n_aa [(.t 15)],a4h 14 16,a4o 17 14 0,a4o 18 14 1,a4n 7 17,a4n 8 18] [0,5,7]
def r_ay_2:=rg [
a4h 20 7,a37 21 0 5,a4f 22 21,a37 23 1 5,a4f 24 23,a36 25 n_am [(.t 20),(.t 22),(.t 24)],a4h 19 25,a4o 26 19 0,a4o 27 19 1,a4n 9 26,a4n 10 27] [0,5,9]
def r_ay_3:=rg [
a4h 28 9,a4e 29 false 28,a37 30 0 5,a4f 31 30,oo 32 (.build [(.int .i64 0),(.int .i64 0),(.int .i64 0),(.int .i64 0)] [(0,1,(.t 29)),(1,1,(.t 31))]),oo 11 (.alloc [(.int .i64 0),(.int .i64 0),(.int .i64 0),(.int .i64 0)]),a4m 4 11 32] [0,5,9,11]
def r_ay_4:=rg [
a37 33 0 5,a4f 34 33,a34 35 .neq 34 0] [0,5,9,11,35]
@[go_sem] def r_ay_5_o:Ops:=[
a37 36 1 5,a4f 37 36,a37 38 2 11,a4m 1 38 37]
def r_ay_5:=rg r_ay_5_o [0,9,11]
def r_ay_6:=rg [
a4g 40 4 11,a36 41 n_ap [(.t 40)],a4h 39 41,a4o 42 39 0,a4o 43 39 1,a4n 12 42,a4n 13 43] [0,9,12]
def r_ay_7:=rg [
a4h 44 0,a4h 45 9,oo 46 (.append 1 1 (.t 44) (.t 45)),a4h 47 12,oo 48 (.append 1 1 (.t 46) (.t 47)),a4n 0 48] [0,12]
def r_ay_8:=rg [
a4h 49 0,a4h 50 12,a4e 51 false 50,oo 52 (.cvInt .u8 (.t 51)),oo 53 (.lit false 1 1 (.int .u8 0) [(0,(.t 52))]),oo 54 (.append 1 1 (.t 49) (.t 53)),a4n 6 54] [6]
def c_ay:ICode:=(.seq r_ay_0 (.seq r_ay_1 (.seq r_ay_2 (.seq r_ay_3 (.seq (.seq r_ay_4 (.cond (.t 35) r_ay_5 .skip)) (.seq r_ay_6 (.seq r_ay_7 (.seq r_ay_8 .ret))))))))
def i_ay:IFunc:=⟨3,[.t 6],c_ay⟩
def a_ay:Advice:=⟨[46,48],zzz 8 [r_ay_8,r_ay_7,r_ay_6,.ret,r_ay_4,r_ay_3,r_ay_2,r_ay_1,r_ay_0]++[(5,[0,9,11])],[],[],[],[]⟩
@[go_sem] def r_bu_0_o:Ops:=[
oo 2 (.asg (.c (.int .u64 0)))]
def r_bu_0:=rg r_bu_0_o [0]
@[go_sem] def r_bu_1_o:Ops:=[
a4h 3 0,a34 4 .lss 3 0]
def r_bu_1:=rg r_bu_1_o [0,4]
@[go_sem] def r_bu_2_o:Ops:=[
a4h 5 0,a34 6 .add 5 1,oo 7 (.bin .sub (ci 0) (.t 6)),oo 8 (.cvInt .u64 (.t 7)),oo 9 (.bin .shl (.t 8) (.c (.int .u64 1))),oo 10 (.bin .or (.t 9) (.c (.int .u64 1))),a4n 2 10]
def r_bu_2:=rg r_bu_2_o [2]
@[go_sem] def r_bu_3_o:Ops:=[
a4h 11 0,oo 12 (.cvInt .u64 (.t 11)),oo 13 (.bin .shl (.t 12) (.c (.int .u64 1))),a4n 2 13]
def r_bu_3:=rg r_bu_3_o [2]
def c_bu:ICode:=(.seq r_bu_0 (.seq r_bu_1 (.cond (.t 4) (.seq r_bu_2 .ret) (.seq r_bu_3 .ret))))
def i_bu:IFunc:=⟨1,[.t 2],c_bu⟩
def a_bu:=zzy ([(3,[2]),(2,[2]),(1,[0,4]),(0,[0])])
def r_ac_0:=rg [
oo 3 (.box 6 (.t 1)),oo 4 (.asg (.c .nilS))] [0,3]
def r_ac_1:=rg [
a4g 13 6 3,a36 14 n_ba [(.t 13)],a4n 5 14] [0,5]
def r_ac_2:=rg [
a33 6 0] [0,5,6]
def ax3:=rg [
a4h 15 6,a4h 16 5,a4e 17 false 16,a35 18 .lss 15 17] [0,5,6,18]
def ax2:=rg [
a4h 21 5,a4h 22 6,a4c 23 9 21 22,a37 24 0 23,a37 25 0 24,a4f 26 25,oo 27 (.cvInt .u64 (.t 26)),oo 28 (.callg true n_av [(.c .nilS),(ci 1),(.t 27)] 0),a4n 7 28] [0,5,6,7]
def ax1:=rg [
oo 8 (.asg (.c .nilS))] [0,5,6,7,8]
def ax0:=rg [
a33 9 0] [0,5,6,7,8,9]
def axz:=rg [
a4h 29 9,a4h 30 5,a4h 31 6,a4c 32 9 30 31,a37 33 6 32,a4f 34 33,a4e 35 false 34,a35 36 .lss 29 35] [0,5,6,7,8,9,36]
@[go_sem] def r_ac_8_o:Ops:=[
a4h 39 8,a4h 40 5,a4h 41 6,a4c 42 9 40 41,a37 43 6 42,a4f 44 43,a4h 45 9,a4c 46 1 44 45,a4f 47 46,oo 48 (.cvInt .u64 (.t 47)),oo 49 (.callg true n_aw [(.t 39),(.t 48)] 0),a4n 8 49]
def r_ac_8:=rg r_ac_8_o [0,5,6,7,8,9]
@[go_sem] def r_ac_9_o:Ops:=[
a4h 37 9,a34 38 .add 37 1,a4n 9 38]
def r_ac_9:=rg r_ac_9_o [0,5,6,7,8,9]
def aii:ICode:=(.seq (.seq axz (.cond (.t 36) .skip (.exit 2))) (.seq (.block 3 r_ac_8) r_ac_9))
def a2i:=a4a aii.eq_1
def agp:=rg [
a4h 50 8,a4e 51 false 50,a34 52 .gtr 51 0] [0,5,6,7,8,52]
@[go_sem] def ayb:Ops:=[
a4h 53 7,a4h 54 8,oo 55 (.callg true n_ax [(.t 53),(ci 2),(.t 54)] 0),a4n 7 55]
def ayc:=rg ayb [0,5,6,7]
def ago:=rg [
a33 10 0] [0,5,6,7,10]
def agn:=rg [
a4h 56 10,a4h 57 5,a4h 58 6,a4c 59 9 57 58,a37 60 0 59,a37 61 1 60,a4f 62 61,a4e 63 false 62,a35 64 .lss 56 63] [0,5,6,7,10,64]
@[go_sem] def ax9:Ops:=[
a4h 67 7,a4h 68 5,a4h 69 6,a4c 70 9 68 69,a37 71 0 70,a37 72 1 71,a4f 73 72,a4h 74 10,a4c 75 1 73 74,a4f 76 75,oo 77 (.s2b false (.t 76)),oo 78 (.callg true n_ax [(.t 67),(ci 3),(.t 77)] 0),a4n 7 78]
def aya:=rg ax9 [0,5,6,7,10]
@[go_sem] def ax7:Ops:=[
a4h 65 10,a34 66 .add 65 1,a4n 10 66]
def ax8:=rg ax7 [0,5,6,7,10]
def aih:ICode:=(.seq (.seq agn (.cond (.t 64) .skip (.exit 4))) (.seq (.block 5 aya) ax8))
def a2j:=a4a aih.eq_1
def agm:=rg [
a33 11 0] [0,5,6,7,11]
def agl:=rg [
a4h 79 11,a34 80 .lss 79 3] [0,5,6,7,11,80]
@[go_sem] def abo:Ops:=[
a4h 83 5,a4h 84 6,a4c 85 9 83 84,a37 86 0 85,a37 87 3 86,a4f 88 87,a4h 89 5,a4h 90 6,a4c 91 9 89 90,a37 92 0 91,a37 93 4 92,a4f 94 93,a4h 95 5,a4h 96 6,a4c 97 9 95 96,a37 98 0 97,a37 99 5 98,a4f 100 99,oo 101 (.lit false 1 3 (.int .i64 0) [(0,(.t 88)),(1,(.t 94)),(2,(.t 100))]),a4h 102 11,a4c 103 1 101 102,a4f 104 103,a4n 12 104]
def abp:List (Nat×Nat):=[(0,1),(0,6),(1,6),(2,6),(3,6),(4,6),(5,6),(0,7),(1,7),(2,7),(3,7),(4,7),(5,7),(6,7),(0,8),(1,8),(2,8),(3,8),(4,8),(5,8),(0,9),(1,9),(2,9),(3,9),(4,9),(5,9),(0,10),(1,10),(2,10),(3,10),(4,10),(5,10),(0,11),(1,11),(2,11),(3,11),(4,11),(5,11),(0,12),(1,12),(2,12),(3,12),(4,12),(5,12),(6,12),(7,12),(8,12),(9,12),(10,12),(11,12),(0,13),(1,13),(2,13),(3,13),(4,13),(5,13),(6,13),(7,13),(8,13),(9,13),(10,13),(11,13),(12,13),(0,14),(1,14),(2,14),(3,14),(4,14),(5,14),(6,14),(7,14),(8,14),(9,14),(10,14),(11,14),(0,15),(1,15),(2,15),(3,15),(4,15),(5,15),(6,15),(7,15),(8,15),(9,15),(10,15),(11,15),(0,16),(1,16),(2,16),(3,16),(4,16),(5,16),(6,16),(7,16),(8,16),(9,16),(10,16),(11,16),(0,17),(1,17),(2,17),(3,17),(4,17),(5,17),(6,17),(7,17),(8,17),(9,17),(10,17),(11,17),(0,19),(1,19),(2,19),(3,19),(4,19),(5,19),(6,19),(7,19),(8,19),(9,19),(10,19),(11,19),(12,19),(13,19),(14,19),(15,19),(16,19),(17,19),(18,19)]
def agk:ICode:= .region abo abp [0,5,6,7,11,12]
@[go_sem] theorem r_ac_20_u:Gu X K s agk abp abo [0,5,6,7,11,12]:=go_regionU' _ _ _ _
def agj:=rg [
a4h 105 12,a34 106 .neq 105 0] [0,5,6,7,11,12,106]
@[go_sem] def ax5:Ops:=[
a4h 107 7,a4h 108 11,oo 109 (.bin .add (ci 4) (.t 108)),a4h 110 12,oo 111 (.cvInt .u64 (.t 110)),oo 112 (.callg true n_av [(.t 107),(.t 109),(.t 111)] 0),a4n 7 112]
def ax6:=rg ax5 [0,5,6,7,11]
def agi:=rg [
a4h 81 11,a34 82 .add 81 1,a4n 11 82] [0,5,6,7,11]
def aig:ICode:=(.seq (.seq agl (.cond (.t 80) .skip (.exit 6))) (.seq (.block 7 (.seq agk (.seq agj (.cond (.t 106) ax6 .skip)))) agi))
def a2k:=a4a aig.eq_1
def agh:=rg [
a4h 113 0,a4h 114 7,oo 115 (.callg true n_ax [(.t 113),(ci 4),(.t 114)] 0),a4n 0 115] [0,5,6]
def agf:=rg [
a4h 19 6,a34 20 .add 19 1,a4n 6 20] [0,5,6]
def a1x:ICode:=(.seq (.seq ax3 (.cond (.t 18) .skip (.exit 0))) (.seq (.block 1 (.seq ax2 (.seq ax1 (.seq (.seq ax0 (.block 2 (.loop aii))) (.seq (.seq agp (.cond (.t 52) ayc .skip)) (.seq (.seq ago (.block 4 (.loop aih))) (.seq (.seq agm (.block 6 (.loop aig))) agh))))))) agf))
def a2l:=a4a a1x.eq_1
def ax4:=rg [
a4h 116 0,a4n 4 116] [4]
def c_ac:ICode:=(.seq r_ac_0 (.seq r_ac_1 (.seq (.seq r_ac_2 (.block 0 (.loop a1x))) (.seq ax4 .ret))))
def i_ac:IFunc:=⟨2,[.t 4],c_ac⟩
def a_ac:Advice:=⟨[28,49,55,78,112,115],a4d [(21,agj),(14,agn),(13,ago),(11,agp),(3,ax3),(2,r_ac_2),(1,r_ac_1),(0,r_ac_0)]++[(24,[4]),(4,[0,5,6]),(23,[0,5,6]),(19,[0,5,6,7,11]),(22,[0,5,6,7,11]),(20,[0,5,6,7,11,12]),(18,[0,5,6,7,11,80]),(17,[0,5,6,7,11]),(15,[0,5,6,7,10]),(16,[0,5,6,7,10]),(12,[0,5,6,7]),(9,[0,5,6,7,8,9]),(10,[0,5,6,7,8,9]),(8,[0,5,6,7,8,9,36]),(7,[0,5,6,7,8,9]),(6,[0,5,6,7,8]),(5,[0,5,6,7])],[],[],[(28,0),(49,0),(55,0),(78,0),(112,0),(115,0)],[]⟩
def r_ax_0:=rg [
oo 6 (.asg (.c .nilS))] [0,1,2]
def r_ax_1:=rg [
a4h 7 1,a36 8 n_bm [(.t 7)],a4j 9 8] [0,1,2,9]
@[go_sem] def r_ax_2_o:Ops:=[
a4h 10 0,a4n 6 10]
def r_ax_2:=rg r_ax_2_o [6]
def r_ax_3:=rg [
a4h 11 0,a4h 12 1,oo 13 (.cvInt .u64 (.t 12)),oo 14 (.bin .shl (.t 13) (.c (.int .u64 3))),oo 15 (.bin .or (.t 14) (.c (.int .u64 2))),oo 16 (.callg true n_aw [(.t 11),(.t 15)] 0),a4h 17 2,a4e 18 false 17,oo 19 (.cvInt .u64 (.t 18)),oo 20 (.callg true n_aw [(.t 16),(.t 19)] 0),a4h 21 2,oo 22 (.append 1 1 (.t 20) (.t 21)),a4n 6 22] [6]
def c_ax:ICode:=(.seq r_ax_0 (.seq r_ax_1 (.cond (.t 9) (.seq r_ax_2 .ret) (.seq r_ax_3 .ret))))
def i_ax:IFunc:=⟨3,[.t 6],c_ax⟩
def a_ax:Advice:=⟨[16,20],zzz 3 [r_ax_3,.ret,r_ax_1,r_ax_0]++[(2,[6])],[],[],[(16,0),(20,0)],[]⟩
def r_aw_0:=rg [
oo 4 (.asg (.c .nilS))] [0,1]
def at5:=rg [
a4h 5 1,oo 6 (.bin .geq (.t 5) (.c (.int .u64 128)))] [0,1,6]
def at4:=rg [
a4h 7 0,a4h 8 1,oo 9 (.bin .and (.t 8) (.c (.int .u64 127))),oo 10 (.bin .or (.t 9) (.c (.int .u64 128))),oo 11 (.cvInt .u8 (.t 10)),oo 12 (.lit false 1 1 (.int .u8 0) [(0,(.t 11))]),oo 13 (.append 1 1 (.t 7) (.t 12)),a4n 0 13] [0,1]
def at3:=rg [
a4h 14 1,oo 15 (.bin .shr (.t 14) (.c (.int .u64 7))),a4n 1 15] [0,1]
def a1s:ICode:=(.seq (.seq at5 (.cond (.t 6) .skip (.exit 0))) (.block 1 (.seq at4 at3)))
def a2m:=a4a a1s.eq_1
def at2:=rg [
a4h 16 0,a4h 17 1,oo 18 (.cvInt .u8 (.t 17)),oo 19 (.lit false 1 1 (.int .u8 0) [(0,(.t 18))]),oo 20 (.append 1 1 (.t 16) (.t 19)),a4n 4 20] [4]
def c_aw:ICode:=(.seq r_aw_0 (.seq (.block 0 (.loop a1s)) (.seq at2 .ret)))
def i_aw:IFunc:=⟨2,[.t 4],c_aw⟩
def a_aw:Advice:=⟨[13],zzz 3 [at3,at4,at5,r_aw_0]++[(4,[4])],[],[],[],[]⟩
def r_bm_0:=rg [
a32 2 false] [0]
def r_bm_1:=rg [
a4h 3 0,a34 4 .geq 3 1,a4h 5 4,a39 6 5 true 0,og 7 5 true (.bin .leq (.t 6) (ci 536870911)),a4k 8 5 7,a4n 2 8] [2]
def c_bm:ICode:=(.seq r_bm_0 (.seq r_bm_1 .ret))
def i_bm:IFunc:=⟨1,[.t 2],c_bm⟩
def a_bm:=zzy (zzz 1 [r_bm_1,r_bm_0])
def r_av_0:=rg [
oo 6 (.asg (.c .nilS))] [0,1,2]
def r_av_1:=rg [
a4h 7 1,a36 8 n_bm [(.t 7)],a4j 9 8] [0,1,2,9]
@[go_sem] def r_av_2_o:Ops:=[
a4h 10 0,a4n 6 10]
def r_av_2:=rg r_av_2_o [6]
def r_av_3:=rg [
a4h 11 0,a4h 12 1,oo 13 (.cvInt .u64 (.t 12)),oo 14 (.bin .shl (.t 13) (.c (.int .u64 3))),oo 15 (.callg true n_aw [(.t 11),(.t 14)] 0),a4h 16 2,oo 17 (.callg true n_aw [(.t 15),(.t 16)] 0),a4n 6 17] [6]
def c_av:ICode:=(.seq r_av_0 (.seq r_av_1 (.cond (.t 9) (.seq r_av_2 .ret) (.seq r_av_3 .ret))))
def i_av:IFunc:=⟨3,[.t 6],c_av⟩
def a_av:Advice:=⟨[15,17],zzz 3 [r_av_3,.ret,r_av_1,r_av_0]++[(2,[6])],[],[],[(15,0),(17,0)],[]⟩
def r_bh_0:=rg [
a32 2 false] [0]
def r_bh_1:=rg [
a4h 3 0,a34 4 .geq 3 0,a4h 5 4,a39 6 5 true 0,og 7 5 true (.bin .leq (.t 6) (ci 262144)),a4k 8 5 7,a4n 2 8] [2]
def c_bh:ICode:=(.seq r_bh_0 (.seq r_bh_1 .ret))
def i_bh:IFunc:=⟨1,[.t 2],c_bh⟩
def a_bh:=zzy (zzz 1 [r_bh_1,r_bh_0])
def r_ba_0:=rg [
oo 1 (.box 6 (.t 0)),oo 2 (.asg (.c .nilS))] [1]
def r_ba_1:=rg [
a4g 3 6 1,a36 4 n_bp [(.t 3)],a34 5 .neq 4 0] [1,5]
@[go_sem] def r_ba_2_o:Ops:=[
oo 2 (.asg (.c .nilS))]
def r_ba_2:=rg r_ba_2_o [2]
def r_ba_3:=rg [
a4g 6 6 1,oo 7 (.callg true n_cm [(.c .nilS),(.t 6),(ci (-1)),(ci 1)] 0),a4n 2 7] [2]
def c_ba:ICode:=(.seq r_ba_0 (.seq r_ba_1 (.cond (.t 5) (.seq r_ba_2 .ret) (.seq r_ba_3 .ret))))
def i_ba:IFunc:=⟨1,[.t 2],c_ba⟩
def a_ba:Advice:=⟨[7],zzz 3 [r_ba_3,.ret,r_ba_1,r_ba_0]++[(2,[2])],[],[],[(7,0)],[]⟩
@[go_sem] def r_bp_0_o:Ops:=[
oo 1 (.box 6 (.t 0)),a33 2 0]
def r_bp_0:=rg r_bp_0_o [1]
@[go_sem] def r_bp_1_o:Ops:=[
a4g 6 6 1,a36 7 n_cq [(.t 6),(ci 1),(ci 0)],a4h 5 7,a4o 8 5 0,a4o 9 5 1,a4n 3 8,a4n 4 9]
def r_bp_1:=rg r_bp_1_o [4]
@[go_sem] def r_bp_2_o:Ops:=[
a4h 10 4,a4n 2 10]
def r_bp_2:=rg r_bp_2_o [2]
def c_bp:ICode:=(.seq r_bp_0 (.seq r_bp_1 (.seq r_bp_2 .ret)))
def i_bp:IFunc:=⟨1,[.t 2],c_bp⟩
def a_bp:=zzy ([(2,[2]),(1,[4]),(0,[1])])
def r_aa_0:=rg [
oo 1 (.box 12 (.t 0)),oo 2 (.asg (.c .nilS)),a33 3 0] [1]
def r_aa_1:=rg [
a37 15 2 1,a4g 16 6 15,a36 17 n_bp [(.t 16)],a34 18 .neq 17 0] [1,18]
@[go_sem] def r_aa_2_o:Ops:=[
a37 19 2 1,a4g 20 6 19,a36 21 n_bp [(.t 20)],oo 2 (.asg (.c .nilS)),a4n 3 21]
def r_aa_2:=rg r_aa_2_o [2,3]
def r_aa_3:=rg [
a37 22 2 1,a4g 23 6 22,a36 24 n_ba [(.t 23)],a4n 4 24] [1,4]
def r_aa_4:=rg [
a37 25 0 1,a4f 26 25,a36 27 n_bh [(.t 26)],a4h 28 27,og 29 28 true (.fieldA 9 (.t 1)),og 30 28 true (.load none (.t 29)),og 31 28 true (.call false n_bh [(.t 30)]),a4k 32 28 31,a4h 33 32,og 34 33 true (.fieldA 11 (.t 1)),og 35 33 true (.load none (.t 34)),og 36 33 true (.call false n_bh [(.t 35)]),a4k 37 33 36,a4h 38 37,og 39 38 true (.fieldA 1 (.t 1)),og 40 38 true (.load none (.t 39)),og 41 38 true (.len false (.t 40)),og 42 38 true (.bin .leq (.t 41) (ci 1024)),a4k 43 38 42,a4h 44 43,og 45 44 true (.fieldA 8 (.t 1)),og 46 44 true (.load none (.t 45)),og 47 44 true (.len false (.t 46)),og 48 44 true (.bin .leq (.t 47) (ci 32)),a4k 49 44 48,a4h 50 49,og 51 50 true (.fieldA 10 (.t 1)),og 52 50 true (.load none (.t 51)),og 53 50 true (.len false (.t 52)),a39 54 50 true 4,og 55 50 true (.len false (.t 54)),og 56 50 true (.bin .eql (.t 53) (.t 55)),a4k 57 50 56,a4n 5 57] [1,4,5]
def r_aa_5:=rg [
a33 6 0] [1,4,5,6]
def ayo:=rg [
a4h 58 6,a37 59 1 1,a4f 60 59,a4e 61 false 60,a35 62 .lss 58 61,a4h 63 62,a39 64 63 true 5,a4k 65 63 64] [1,4,5,6,65]
def ayn:=rg [
a37 68 1 1,a4f 69 68,a4h 70 6,a4c 71 5 69 70,a4g 72 5 71,oo 7 (.alloc [(.int .i64 0),(.int .i64 0),(.int .i64 0),(.int .i64 0),(.int .i64 0)]),a4m 5 7 72] [1,4,6,7]
def aym:=rg [
a37 73 0 7,a4f 74 73,a36 75 n_bh [(.t 74)],a4h 76 75,og 77 76 true (.fieldA 1 (.t 7)),og 78 76 true (.load none (.t 77)),og 79 76 true (.call false n_bh [(.t 78)]),a4k 80 76 79,a4h 81 80,og 82 81 true (.fieldA 2 (.t 7)),og 83 81 true (.load none (.t 82)),og 84 81 true (.call false n_bh [(.t 83)]),a4k 85 81 84,a4h 86 85,og 87 86 true (.fieldA 3 (.t 7)),og 88 86 true (.load none (.t 87)),og 89 86 true (.call false n_bh [(.t 88)]),a4k 90 86 89,a4h 91 90,og 92 91 true (.fieldA 4 (.t 7)),og 93 91 true (.load none (.t 92)),og 94 91 true (.call false n_bh [(.t 93)]),a4k 95 91 94,a4n 5 95] [1,4,5,6]
def ayl:=rg [
a4h 66 6,a34 67 .add 66 1,a4n 6 67] [1,4,5,6]
def oy:ICode:=(.seq (.seq ayo (.cond (.t 65) .skip (.exit 0))) (.seq (.block 1 (.seq (.seq (.free 7) ayn) aym)) ayl))
def a2n:=a4a oy.eq_1
def ay5:=rg [
a4h 96 5,a4j 97 96] [1,4,97]
def ay4:=rg [
oo 2 (.asg (.c .nilS)),a33 3 1] [2,3]
@[go_sem] def acz:Ops:=[
oo 98 (.callg true n_av [(.c .nilS),(ci 1),(.c (.int .u64 3))] 0),a37 99 0 1,a4f 100 99,oo 101 (.cvInt .u64 (.t 100)),oo 102 (.callg true n_av [(.t 98),(ci 2),(.t 101)] 0),a4n 8 102]
def ac0:List (Nat×Nat):=[(0,1),(0,2),(0,3)]
def ay3:ICode:= .region acz ac0 [1,4,8]
@[go_sem] theorem r_aa_13_u:Gu X K s ay3 ac0 acz [1,4,8]:=go_regionU' _ _ _ _
def ay2:=rg [
a33 9 0] [1,4,8,9]
def ahb:=rg [
a4h 103 9,a37 104 1 1,a4f 105 104,a4e 106 false 105,a35 107 .lss 103 106] [1,4,8,9,107]
def aha:=rg [
a37 110 1 1,a4f 111 110,a4h 112 9,a4c 113 5 111 112,a4g 114 5 113,oo 10 (.alloc [(.int .i64 0),(.int .i64 0),(.int .i64 0),(.int .i64 0),(.int .i64 0)]),a4m 5 10 114] [1,4,8,9,10]
def ag9:=rg [
oo 11 (.asg (.c .nilS))] [1,4,8,9,10,11]
def ag8:=rg [
a33 12 0] [1,4,8,9,10,11,12]
def ag7:=rg [
a4h 115 12,a34 116 .lss 115 5] [1,4,8,9,10,11,12,116]
def ag6:=rg [
a4h 119 11,a4h 120 12,a34 121 .add 120 1,a37 122 0 10,a4f 123 122,a37 124 1 10,a4f 125 124,a37 126 2 10,a4f 127 126,a37 128 3 10,a4f 129 128,a37 130 4 10,a4f 131 130,oo 132 (.lit false 1 5 (.int .i64 0) [(0,(.t 123)),(1,(.t 125)),(2,(.t 127)),(3,(.t 129)),(4,(.t 131))]),a4h 133 12,a4c 134 1 132 133,a4f 135 134,oo 136 (.cvInt .u64 (.t 135)),oo 137 (.callg true n_av [(.t 119),(.t 121),(.t 136)] 0),a4n 11 137] [1,4,8,9,10,11,12]
def ag5:=rg [
a4h 117 12,a34 118 .add 117 1,a4n 12 118] [1,4,8,9,10,11,12]
def aik:ICode:=(.seq (.seq ag7 (.cond (.t 116) .skip (.exit 4))) (.seq (.block 5 ag6) ag5))
def a2o:=a4a aik.eq_1
def ag4:=rg [
a4h 138 8,a4h 139 11,oo 140 (.callg true n_ax [(.t 138),(ci 3),(.t 139)] 0),a4n 8 140] [1,4,8,9]
def ag3:=rg [
a4h 108 9,a34 109 .add 108 1,a4n 9 109] [1,4,8,9]
def se:ICode:=(.seq (.seq ahb (.cond (.t 107) .skip (.exit 2))) (.seq (.block 3 (.seq (.seq (.free 10) aha) (.seq ag9 (.seq (.seq ag8 (.block 4 (.loop aik))) ag4)))) ag3))
def a2p:=a4a se.eq_1
def ay1:=rg [
a4h 141 8,a37 142 2 1,a4g 143 6 142,oo 144 (.callg true n_ac [(.t 141),(.t 143)] 0),a4n 8 144] [1,4,8]
def ay0:=rg [
a33 13 0] [1,4,8,13]
def ag2:=rg [
a4h 145 13,a37 146 8 1,a4f 147 146,a4e 148 false 147,a35 149 .lss 145 148] [1,4,8,13,149]
@[go_sem] def ayx:Ops:=[
a4h 152 8,a37 153 8 1,a4f 154 153,a4h 155 13,a4c 156 2 154 155,a37 157 0 156,a4f 158 157,oo 159 (.s2b false (.t 158)),oo 160 (.callg true n_ax [(.c .nilS),(ci 1),(.t 159)] 0),a37 161 8 1,a4f 162 161,a4h 163 13,a4c 164 2 162 163,a37 165 1 164,a4f 166 165,oo 167 (.callg false n_ax [(.t 160),(ci 2),(.t 166)] 0),oo 168 (.callg true n_ax [(.t 152),(ci 5),(.t 167)] 0),a4n 8 168]
def ayy:List (Nat×Nat):=[(0,1),(0,2),(0,3),(1,3),(2,3),(0,4),(0,5),(0,6),(0,7),(0,8),(0,9),(1,9),(2,9),(3,9),(4,9),(5,9),(6,9),(7,9),(8,9),(0,10),(1,10),(2,10),(3,10),(4,10),(5,10),(6,10),(7,10),(8,10),(0,11),(1,11),(2,11),(3,11),(4,11),(5,11),(6,11),(7,11),(8,11),(9,11),(10,11),(0,12),(1,12),(2,12),(3,12),(4,12),(5,12),(6,12),(7,12),(8,12),(0,13),(1,13),(2,13),(3,13),(4,13),(5,13),(6,13),(7,13),(8,13),(0,14),(1,14),(2,14),(3,14),(4,14),(5,14),(6,14),(7,14),(8,14),(0,15)]
def ayz:ICode:= .region ayx ayy [1,4,8,13]
@[go_sem] def ayv:Ops:=[
a4h 150 13,a34 151 .add 150 1,a4n 13 151]
def ayw:=rg ayv [1,4,8,13]
def a1z:ICode:=(.seq (.seq ag2 (.cond (.t 149) .skip (.exit 6))) (.seq (.block 7 ayz) ayw))
def a2q:=a4a a1z.eq_1
def ayu:=rg [
a4h 169 8,a37 170 9 1,a4f 171 170,oo 172 (.cvInt .u64 (.t 171)),oo 173 (.callg true n_av [(.t 169),(ci 6),(.t 172)] 0),a4n 8 173] [1,4,8]
def ayt:=rg [
a33 14 0] [1,4,8,14]
def ag1:=rg [
a4h 174 14,a37 175 10 1,a4f 176 175,a4e 177 false 176,a35 178 .lss 174 177] [1,4,8,14,178]
@[go_sem] def ach:Ops:=[
a4h 181 8,a4h 182 4,a4h 183 14,a4c 184 9 182 183,a37 185 0 184,a4g 186 6 185,a37 187 10 1,a4f 188 187,a4h 189 14,a4c 190 15 188 189,a4g 191 15 190,a36 192 n_ck [(.t 186),(.t 191)],oo 193 (.callg true n_ax [(.t 181),(ci 7),(.t 192)] 0),a4n 8 193]
def aci:List (Nat×Nat):=[(0,1),(0,2),(1,2),(0,3),(0,4),(0,5),(0,6),(1,6),(2,6),(3,6),(4,6),(5,6),(0,7),(1,7),(2,7),(3,7),(4,7),(5,7),(0,8),(1,8),(2,8),(3,8),(4,8),(5,8),(6,8),(7,8),(0,9),(1,9),(2,9),(3,9),(4,9),(5,9),(0,10),(1,10),(2,10),(3,10),(4,10),(5,10),(0,11)]
def ag0:ICode:= .region ach aci [1,4,8,14]
@[go_sem] theorem r_aa_35_u:Gu X K s ag0 aci ach [1,4,8,14]:=go_regionU' _ _ _ _
def agz:=rg [
a4h 179 14,a34 180 .add 179 1,a4n 14 180] [1,4,8,14]
def a1y:ICode:=(.seq (.seq ag1 (.cond (.t 178) .skip (.exit 8))) (.seq (.block 9 ag0) agz))
def a2r:=a4a a1y.eq_1
def ays:=rg [
a4h 194 8,a37 195 11 1,a4f 196 195,oo 197 (.cvInt .u64 (.t 196)),oo 198 (.callg true n_av [(.t 194),(ci 8),(.t 197)] 0),a4n 8 198] [8]
def ayr:=rg [
a4h 199 8,a4e 200 false 199,a34 201 .gtr 200 65536] [8,201]
@[go_sem] def ayq:Ops:=[
oo 2 (.asg (.c .nilS)),a33 3 4]
def r_aa_40:=rg ayq [2,3]
def ayp:=rg [
a4h 202 8,a4n 2 202,a33 3 0] [2,3]
def c_aa:ICode:=(.seq r_aa_0 (.seq r_aa_1 (.cond (.t 18) (.seq r_aa_2 .ret) (.seq r_aa_3 (.seq r_aa_4 (.seq (.seq r_aa_5 (.block 0 (.loop oy))) (.seq ay5 (.cond (.t 97) (.seq ay4 .ret) (.seq ay3 (.seq (.seq ay2 (.block 2 (.loop se))) (.seq ay1 (.seq (.seq ay0 (.block 6 (.loop a1z))) (.seq ayu (.seq (.seq ayt (.block 8 (.loop a1y))) (.seq ays (.seq ayr (.cond (.t 201) (.seq r_aa_40 .ret) (.seq ayp .ret))))))))))))))))))
def i_aa:IFunc:=⟨1,[.t 2,.t 3],c_aa⟩
def a_aa:Advice:=⟨[98,102,137,140,144,160,168,173,193,198],a4d [(27,ay0),(20,ag6),(21,ag5),(19,ag7),(18,ag8),(17,ag9),(16,aha),(9,ayl),(6,ayo),(5,r_aa_5),(4,r_aa_4),(3,r_aa_3),(1,r_aa_1),(0,r_aa_0)]++[(36,[2,3]),(35,[2,3]),(34,[8,201]),(33,[8]),(31,[1,4,8,14]),(32,[1,4,8,14]),(30,[1,4,8,14,178]),(29,[1,4,8,14]),(28,[1,4,8]),(26,[1,4,8,13]),(25,[1,4,8,13,149]),(24,[1,4,8,13]),(23,[1,4,8]),(15,[1,4,8,9]),(22,[1,4,8,9]),(14,[1,4,8,9,107]),(13,[1,4,8,9]),(12,[1,4,8]),(11,[2,3]),(10,[1,4,97]),(7,[1,4,5,6]),(8,[1,4,6,7]),(2,[2,3])],[],[(8,[7]),(16,[10])],[(98,0),(102,0),(137,0),(140,0),(144,0),(160,0),(167,0),(168,0),(173,0),(193,0),(198,0)],[]⟩
def r_ab_0:=rg [
a32 6 false] [0,1,2]
def r_ab_1:=rg [
a36 18 n_cd [],a4j 19 18] [0,1,2,19]
@[go_sem] def r_ab_2_o:Ops:=[
a32 6 false]
def r_ab_2:=rg r_ab_2_o [6]
def r_ab_3:=rg [
a4h 20 0,a4e 21 false 20,a34 22 .gtr 21 500,a4h 23 22,a39 24 23 false 1,og 25 23 false (.len false (.t 24)),og 26 23 false (.bin .gtr (.t 25) (ci 20)),a4l 27 23 26] [0,1,2,27]
def r_ab_4:=rg [
a32 6 true] [6]
def r_ab_5:=rg [
oo 28 (.build [(.int .i64 0),.nilS,.nilS,(.int .i64 0),(.int .i64 0),(.int .i64 0)] [(0,1,(ci 12))]),a4h 29 1,a4h 30 2,oo 31 (.build [(.int .i64 0),(.bool false),(.bool false),(.bool false),(.int .i64 0),(.int .i64 0),.nilS,.nilS,(.bool false),(.int .i64 0),(.int .i64 0),.nilS,.nilS,(.bool false),(.int .i64 0)] []),oo 32 (.lit false 15 1 (.agg [(.int .i64 0),(.bool false),(.bool false),(.bool false),(.int .i64 0),(.int .i64 0),(.sl []),(.sl []),(.bool false),(.int .i64 0),(.int .i64 0),(.sl []),(.sl []),(.bool false),(.int .i64 0)]) [(0,(.t 31))]),oo 33 (.build [(.int .i64 0),.nilS,(.int .i64 0),.nilS,.nilS,(.int .i64 0),(.int .i64 0),(.int .i64 0),.nilS,(.int .i64 0),.nilS,(.int .i64 0)] [(2,6,(.t 28)),(1,1,(.t 29)),(9,1,(.t 30)),(10,1,(.t 32))]),oo 7 (.alloc [(.int .i64 0),.nilS,(.int .i64 0),.nilS,.nilS,(.int .i64 0),(.int .i64 0),(.int .i64 0),.nilS,(.int .i64 0),.nilS,(.int .i64 0)]),a4m 12 7 33] [0,1,2,7]
def r_ab_6:=rg [
a4g 35 12 7,a36 36 n_aa [(.t 35)],a4h 34 36,a4o 37 34 0,a4o 38 34 1,a4n 8 37,a4n 9 38] [0,1,2,7,9]
def r_ab_7:=rg [
a4h 39 9,a34 40 .neq 39 0] [0,1,2,7,40]
def r_ab_8:=rg [
a32 6 true] [6]
@[go_sem] def aoe:Ops:=[
oo 41 (.lit true 1 3 (.int .u8 0) [(0,(.c (.int .u8 79))),(1,(.c (.int .u8 82))),(2,(.c (.int .u8 67)))]),oo 42 (.cvB true (.t 41)),a4h 43 0,oo 44 (.append 1 1 (.t 42) (.t 43)),a4g 45 12 7,oo 46 (.build [(.int .i64 0),(.int .i64 0),(.int .i64 0),(.int .i64 0),(.int .i64 0),(.int .i64 0)] [(1,1,(ci 64))]),oo 47 (.callg false n_ay [(.t 44),(.t 45),(.t 46)] 0),a4n 10 47]
def aof:List (Nat×Nat):=[(0,2),(1,2),(0,4),(1,4),(2,4),(3,4),(0,5),(1,5),(2,5),(3,5),(4,5)]
def r_ab_9:ICode:= .region aoe aof [0,1,2,10]
@[go_sem] theorem r_ab_9_u:Gu X K s r_ab_9 aof aoe [0,1,2,10]:=go_regionU' _ _ _ _
def ayk:=rg [
a4h 49 10,a36 50 n_au [(.t 49)],a4h 48 50,a4o 51 48 0,a4o 52 48 1,oo 11 (.alloc [(.int .i64 0),(.int .i64 0),(.int .i64 0),(.int .i64 0),(.int .i64 0),.nilS,(.int .i64 0),.nilS,.nilS,(.int .i64 0),(.int .i64 0),(.int .i64 0),.nilS,(.int .i64 0),.nilS,(.int .i64 0)]),a4m 16 11 51,a4n 12 52] [0,1,2,12]
def ayj:=rg [
a33 13 0] [0,1,2,12,13]
def ayi:=rg [
a33 14 0] [0,1,2,12,13,14]
def agy:=rg [
a4h 53 14,a4h 54 1,a4e 55 false 54,a35 56 .lss 53 55] [0,1,2,12,13,14,56]
def agx:=rg [
a4h 59 13,a4h 60 1,a4h 61 14,a4c 62 5 60 61,a37 63 4 62,a4f 64 63,a35 65 .add 59 64,a4n 13 65] [0,1,2,12,13,14]
def agw:=rg [
a4h 57 14,a34 58 .add 57 1,a4n 14 58] [0,1,2,12,13,14]
def aij:ICode:=(.seq (.seq agy (.cond (.t 56) .skip (.exit 0))) (.seq (.block 1 agx) agw))
def a2s:=a4a aij.eq_1
def ayh:=rg [
a4h 66 13,a4h 67 2,a35 68 .neq 66 67,a4h 69 68,a39 70 69 false 2,og 71 69 false (.bin .gtr (.t 70) (ci 4096)),a4l 72 69 71] [0,1,12,72]
def ayg:=rg [
a4h 73 12,oo 74 (.build [(.str []),(.int .i64 0),(.int .i64 0)] [(0,1,(.c (.str [102,111,111,116])))]),oo 75 (.lit false 3 1 (.agg [(.str []),(.int .i64 0),(.int .i64 0)]) [(0,(.t 74))]),a36 76 n_bx [(.t 73),(.t 75),(ci 2)],a4n 6 76] [6]
def ayf:=rg [
a33 15 3] [0,1,12,15]
def aye:=rg [
a33 16 0] [0,1,12,15,16]
def agv:=rg [
a4h 77 16,a4h 78 1,a4e 79 false 78,a35 80 .lss 77 79] [0,1,12,15,16,80]
def agu:=rg [
a4h 83 1,a4h 84 16,a4c 85 5 83 84,a4g 86 5 85,oo 17 (.alloc [(.int .i64 0),(.int .i64 0),(.int .i64 0),(.int .i64 0),(.int .i64 0)]),a4m 5 17 86] [0,1,12,15,16,17]
def agt:=rg [
a37 87 0 17,a4f 88 87,a4h 89 15,a35 90 .lss 88 89,a4h 91 90,og 92 91 false (.fieldA 0 (.t 17)),og 93 91 false (.load none (.t 92)),og 94 91 false (.fieldA 1 (.t 17)),og 95 91 false (.load none (.t 94)),og 96 91 false (.bin .add (.t 93) (.t 95)),og 97 91 false (.fieldA 2 (.t 17)),og 98 91 false (.load none (.t 97)),og 99 91 false (.bin .add (.t 96) (.t 98)),og 100 91 false (.fieldA 3 (.t 17)),og 101 91 false (.load none (.t 100)),og 102 91 false (.bin .add (.t 99) (.t 101)),a39 103 91 false 0,og 104 91 false (.len false (.t 103)),og 105 91 false (.bin .add (ci 3) (.t 104)),og 106 91 false (.bin .gtr (.t 102) (.t 105)),a4l 107 91 106] [0,1,12,16,17,107]
def ags:=rg [
a4h 108 12,a4h 109 16,oo 110 (.build [(.str []),(.int .i64 0),(.int .i64 0)] [(0,1,(.c (.str [115,116,114,105,112,101]))),(1,1,(.t 109))]),oo 111 (.lit false 3 1 (.agg [(.str []),(.int .i64 0),(.int .i64 0)]) [(0,(.t 110))]),a36 112 n_bx [(.t 108),(.t 111),(ci 2)],a4n 6 112] [6]
def agr:=rg [
a37 113 0 17,a4f 114 113,a37 115 1 17,a4f 116 115,a35 117 .add 114 116,a37 118 2 17,a4f 119 118,a35 120 .add 117 119,a37 121 3 17,a4f 122 121,a35 123 .add 120 122,a4n 15 123] [0,1,12,15,16]
def agq:=rg [
a4h 81 16,a34 82 .add 81 1,a4n 16 82] [0,1,12,15,16]
def mb:ICode:=(.seq (.seq agv (.cond (.t 80) .skip (.exit 2))) (.seq (.block 3 (.seq (.seq (.free 17) agu) (.seq (.seq agt (.cond (.t 107) (.seq ags .ret) .skip)) agr))) agq))
def a2t:=a4a mb.eq_1
def ayd:=rg [
a4h 124 12,oo 125 (.eqn false .ifnil (.t 124) (.c .nilI)),a4n 6 125] [6]
def c_ab:ICode:=(.seq r_ab_0 (.seq r_ab_1 (.cond (.t 19) (.seq r_ab_2 .ret) (.seq r_ab_3 (.cond (.t 27) (.seq r_ab_4 .ret) (.seq r_ab_5 (.seq r_ab_6 (.seq r_ab_7 (.cond (.t 40) (.seq r_ab_8 .ret) (.seq r_ab_9 (.seq ayk (.seq ayj (.seq (.seq ayi (.block 0 (.loop aij))) (.seq ayh (.cond (.t 72) (.seq ayg .ret) (.seq ayf (.seq (.seq aye (.block 2 (.loop mb))) (.seq ayd .ret))))))))))))))))))
def i_ab:IFunc:=⟨3,[.t 6],c_ab⟩
def a_ab:Advice:=⟨[41,42,44],zzz 25 [agr,ags,agt,agu,.ret,.ret,.ret,.ret,.ret,.ret,agw,agx,agy,ayi,ayj,ayk,.ret,r_ab_8,r_ab_7,r_ab_6,r_ab_5,r_ab_4,r_ab_3,.ret,r_ab_1,r_ab_0]++[(26,[6]),(21,[0,1,12,15,16]),(20,[0,1,12,15,16,80]),(19,[0,1,12,15,16]),(18,[0,1,12,15]),(17,[6]),(16,[0,1,12,72]),(9,[0,1,2,10]),(2,[6])],[],[(22,[17])],[(47,0)],[]⟩
def tbl:List (FuncId×IFunc):=[(n_aj,i_aj),(n_ah,i_ah),(n_ao,i_ao),(n_ae,i_ae),(n_bg,i_bg),(n_ai,i_ai),(n_ag,i_ag),(n_ak,i_ak),(n_al,i_al),(n_bq,i_bq),(n_br,i_br),(n_bl,i_bl),(n_bt,i_bt),(n_a9,i_a9),(n_af,i_af),(n_a8,i_a8),(n_aq,i_aq),(n_az,i_az),(n_bo,i_bo),(n_bk,i_bk),(n_bd,i_bd),(n_bc,i_bc),(n_au,i_au),(n_ap,i_ap),(n_am,i_am),(n_ay,i_ay),(n_bu,i_bu),(n_ac,i_ac),(n_ax,i_ax),(n_aw,i_aw),(n_bm,i_bm),(n_av,i_av),(n_bh,i_bh),(n_ba,i_ba),(n_bp,i_bp),(n_aa,i_aa),(n_ab,i_ab)]
def clips:List FuncId:=[116,94,121,114,157,119,156,155,111,107,32]
noncomputable def tab:List AF:=[⟨168,Tryz.f168,⟨[],[(12,[6,7]),(11,[6,7]),(10,[2,3,6,36]),(3,[2,3,6]),(5,[2,3,6]),(9,[2,3,6]),(8,[6,7]),(7,[3,4,6,28]),(6,[2,3,4,6,16]),(4,[2,3,4,6,9,12]),(2,[2,3,4,6,9,10]),(1,[2,3,4,6,9]),(0,[2,3,4,6])],[],[],[],[]⟩⟩,
⟨167,Tryz.f167,⟨[],[(14,[4]),(13,[4]),(12,[38]),(11,[6]),(10,[6]),(9,[4]),(8,[6,29]),(7,[5,6]),(6,[5,6,18]),(5,[2,5,6,11,16]),(4,[2,5,6,11,14]),(3,[2,5,6,11,12]),(2,[2,5,6,11]),(1,[2,5,6]),(0,[2,3])],[],[],[],[]⟩⟩,
⟨188,Tryz.f188,⟨[],[(8,[2]),(7,[3,6,7,8]),(6,[3,6,7,8]),(5,[3,6,7,8,14]),(4,[3,5,6,7,8]),(3,[3,6,7,8,9]),(2,[3,6,7,8]),(1,[0,3]),(0,[0])],[],[],[],[]⟩⟩,
⟨166,Tryz.f166,⟨[],[(9,[4]),(8,[4]),(7,[4]),(6,[3,18]),(5,[3,10]),(4,[3,6,10]),(3,[2,3,6,7]),(2,[2,3,6,7]),(1,[2,3,6]),(0,[2,3])],[],[],[],[]⟩⟩,
⟨187,Tryz.f187,⟨[],[(1,[4]),(0,[0,1])],[],[],[],[]⟩⟩,
⟨152,Tryz.f152,⟨[],[(3,[2]),(2,[2]),(1,[0,4]),(0,[0])],[],[],[],[]⟩⟩,
⟨186,Tryz.f186,⟨[],[(12,[2]),(11,[3,4]),(10,[3,4]),(9,[3,4,22]),(8,[3,4]),(7,[3,4]),(6,[3,4]),(5,[3,4]),(4,[3,4,10]),(3,[3,4,7]),(2,[3,4]),(1,[0,3]),(0,[0])],[],[],[],[]⟩⟩,
⟨185,Tryz.f185,⟨[],[(1,[4]),(0,[0,1])],[],[],[],[]⟩⟩,
⟨165,Tryz.f165,⟨[],[(19,[4]),(3,[4]),(5,[4]),(7,[4]),(10,[4]),(12,[4]),(14,[4]),(16,[4]),(18,[4]),(17,[2,3,50]),(15,[2,3,6,43]),(13,[2,3,6,35]),(11,[2,3,6,33]),(9,[2,3,6,27]),(8,[2,3,6,27]),(6,[2,3,6,22]),(4,[2,3,6,17]),(2,[2,3,6,7]),(1,[2,3,6]),(0,[2,3])],[],[],[],[]⟩⟩,
⟨184,Tryz.f184,⟨[],[(7,[2]),(6,[2]),(5,[7]),(4,[3,7]),(3,[3,4]),(2,[3,4]),(1,[3]),(0,[0])],[],[],[],[]⟩⟩,
⟨183,Tryz.f183,⟨[],[(7,[2]),(6,[2]),(5,[7]),(4,[3,7]),(3,[3,4]),(2,[3,4]),(1,[3]),(0,[0])],[],[],[],[]⟩⟩,
⟨164,Tryz.f164,⟨[],[(3,[4]),(2,[4]),(1,[2,3,6]),(0,[2,3])],[],[],[],[]⟩⟩,
⟨142,Tryz.f142,⟨[],[(20,[4]),(19,[2,3,41,42,43]),(18,[4]),(17,[2,3,10,41,42,43,75]),(16,[2,3,10,41,42,43]),(15,[4]),(14,[2,3,7,8,41,42,43,70]),(13,[2,3,6,7,8,9,41,42,43]),(12,[2,3,6,7,41,42,43]),(11,[2,3,41,42,43,44]),(10,[2,3,41,42,43]),(9,[4]),(8,[2,3,5,38]),(7,[2,3,5]),(2,[4]),(4,[4]),(6,[4]),(5,[2,3,30]),(3,[2,3,27]),(1,[2,3,11]),(0,[2,3])],[],[(12,[7]),(13,[8])],[],[]⟩⟩,
⟨143,Tryz.f143,⟨[],[(1,[2]),(0,[1,2])],[],[],[],[]⟩⟩,
⟨163,Tryz.f163,⟨[],[(3,[6]),(2,[7]),(1,[0,2,7,8]),(0,[0,1,2])],[],[],[],[]⟩⟩,
⟨201,Tryz.f201,⟨[],[(4,[4,5]),(3,[4,5]),(2,[6,19]),(1,[0,1,6]),(0,[0,1])],[],[],[],[]⟩⟩,
⟨207,Tryz.f207,⟨[],[(3,[2]),(2,[2]),(1,[0,4]),(0,[0])],[],[],[],[]⟩⟩,
⟨200,Tryz.f200,⟨[],[(9,[4,5]),(6,[4,5]),(8,[4,5]),(7,[7,43]),(5,[7,8,28]),(4,[6,7,8]),(3,[0,1,6,7]),(2,[4,5]),(1,[0,1,14]),(0,[0,1])],[],[],[],[]⟩⟩,
⟨199,Tryz.f199,⟨[],[(1,[2]),(0,[0])],[],[],[],[]⟩⟩,
⟨205,Tryz.f205,⟨[],[(4,[4,5,6]),(3,[4,5,6]),(2,[0,1,7,12]),(1,[0,1,7]),(0,[0,1])],[],[],[],[]⟩⟩,
⟨198,Tryz.f198,⟨[],[(1,[4,5,6]),(0,[0,1])],[],[],[],[]⟩⟩,
⟨193,Tryz.f193,⟨[],[(1,[4]),(0,[0,1])],[],[],[],[]⟩⟩,
⟨204,Tryz.f204,⟨[],[(3,[4,5]),(2,[4,5]),(1,[0,1,9]),(0,[0,1])],[],[],[],[]⟩⟩,
⟨197,Tryz.f197,⟨[],[(1,[4,5]),(0,[0,1])],[],[],[],[]⟩⟩,
⟨182,Tryz.f182,⟨[],[(21,[4,5]),(20,[7,11,59,60,61]),(19,[7,11,59,60,61]),(18,[4,5]),(17,[7,17,59,60,61,87]),(16,[7,16,17,18,59,60,61]),(15,[7,14,15,16,59,60,61]),(14,[7,11,14,59,60,61]),(13,[7,11,14,59,60,61,68]),(12,[7,11,14,59,60,61]),(11,[7,11,13,59,60,61]),(10,[7,11,59,60,61,62]),(9,[7,11,59,60,61]),(8,[1,7,8,9,11]),(5,[4,5]),(7,[4,5]),(6,[1,7,8,9,45]),(4,[1,7,8,9,33]),(3,[1,7,8,9,10]),(2,[1,6,7]),(1,[0,1]),(0,[0,1])],[],[],[],[]⟩⟩,
⟨162,Tryz.f162,⟨[],[(6,[4,5]),(5,[8]),(4,[0,8,9]),(3,[4,5]),(2,[0,6,20]),(1,[0,6,7]),(0,[0,1])],[],[],[],[]⟩⟩,
⟨160,Tryz.f160,⟨[],[(4,[4,5,6]),(3,[4,5,7]),(2,[0,4,5,7,8]),(1,[0,1,4,7]),(0,[0,1])],[],[],[],[]⟩⟩,
⟨161,Tryz.f161,⟨[],[(1,[4,5]),(0,[0,1])],[],[],[],[]⟩⟩,
⟨159,Tryz.f159,⟨[],[(4,[4,5,6]),(3,[4,5,7]),(2,[0,4,5,7,8]),(1,[0,1,4,7]),(0,[0,1])],[],[],[],[]⟩⟩,
⟨196,Tryz.f196,⟨[],[(1,[2]),(0,[0])],[],[],[],[]⟩⟩,
⟨181,Tryz.f181,⟨[],[(2,[4,5]),(1,[6,7]),(0,[0,1])],[],[],[],[]⟩⟩,
⟨158,Tryz.f158,⟨[],[(1,[4,5]),(0,[0,1])],[],[],[],[]⟩⟩,
⟨141,Tryz.f141,⟨[],[(25,[4]),(24,[]),(23,[0,1]),(22,[]),(21,[]),(20,[0,1]),(19,[]),(18,[1,5]),(17,[0,1,5,106]),(16,[0,1,5]),(15,[4]),(14,[0,1,5,6,96]),(13,[0,1,5,6]),(12,[]),(11,[0,1]),(10,[]),(9,[0,1]),(8,[0,1,25]),(7,[0,1,12,23]),(6,[0,1,12,21]),(5,[0,1,12,19]),(4,[0,1,12,17]),(3,[0,1,12,15]),(2,[0,1,12,13]),(1,[0,1,12]),(0,[0,1])],[],[],[],[]⟩⟩,
⟨99,Tryz.f99,⟨[],[(21,[2]),(20,[2]),(19,[2]),(18,[2]),(17,[2]),(16,[2]),(15,[2]),(14,[2]),(13,[22]),(12,[3,20]),(11,[3,18]),(10,[3,16]),(9,[3,14]),(8,[3,10]),(7,[3,10]),(6,[3,10]),(5,[3,7]),(4,[3,7]),(3,[3,4]),(2,[3,4]),(1,[3]),(0,[0])],[],[],[],[]⟩⟩,
⟨115,Tryz.f115,⟨[],[(24,[4,5]),(23,[4,12]),(22,[4,12,110]),(21,[4,5]),(20,[4,12,106]),(19,[4,5]),(18,[2,4,12,16,17,79]),(17,[2,4,12,16,17]),(16,[4,5]),(15,[2,4,7,12,16,73]),(14,[2,4,7,12,16]),(13,[2,4,12,14,16]),(12,[4,5]),(11,[2,4,12,14,59]),(10,[2,4,12,13,14,15]),(9,[2,4,6,12,13]),(8,[2,4,6,12]),(7,[4,5]),(6,[2,4,6,8,10,38]),(5,[2,4,6,8,10]),(4,[2,4,6,8]),(3,[4,5]),(2,[2,4,6,7,24]),(1,[2,4,6,7]),(0,[1,2,4])],[],[],[],[]⟩⟩,
⟨95,Tryz.f95,⟨[32,44,50],[(11,[8]),(10,[0]),(9,[0,3,9,10,34,35,36]),(8,[0,3,9,10,34,35,36]),(7,[0,3,9,10,12,34,35,36]),(6,[0,3,9,10,12,34,35,36]),(5,[0,3,9,10,34,35,36,37]),(4,[0,3,9,10,34,35,36]),(3,[0,3,5,9,10]),(2,[0,3,5,9]),(1,[0,2,3,5,9]),(0,[0,2,3,5])],[(10,[10])],[(6,[12])],[(50,0)],[]⟩⟩,
⟨58,Tryz.f58,⟨[],[(3,[2]),(2,[2]),(1,[1,5]),(0,[1])],[],[],[(7,0)],[]⟩⟩,
⟨118,Tryz.f118,⟨[],[(24,[2]),(23,[2]),(22,[1,73]),(21,[2]),(20,[1,6,72]),(19,[1,3,4,5,6]),(18,[2]),(17,[1,3,4,5,6,48]),(16,[1,3,4,5,6]),(15,[2]),(14,[1,3,4,5,6,40]),(13,[1,3,4,5,6]),(12,[1,3,4,5,6]),(11,[1,3,4,5,6]),(10,[1,3,4,5,6]),(9,[1,3,4,5,6,20]),(8,[1,3,4,5,6,8,17]),(7,[1,3,4,5,6,8,17]),(6,[1,3,4,5,6,8,15]),(5,[1,3,4,5,6,8,13]),(4,[1,3,4,5,6,8,11]),(3,[1,3,4,5,6,8,9]),(2,[1,3,4,5,6,8]),(1,[1,3,4,5,6]),(0,[1])],[],[],[],[]⟩⟩,
⟨93,Tryz.f93,⟨[],[(15,[6]),(14,[1,2,48,49,50]),(13,[6]),(12,[1,2,9,48,49,50,60]),(11,[1,2,9,48,49,50]),(10,[1,2,8,48,49,50]),(9,[1,2,48,49,50,51]),(8,[1,2,48,49,50]),(7,[1,2,3]),(2,[6]),(4,[6]),(6,[6]),(5,[1,2,3,28]),(3,[1,2,3,19]),(1,[1,2,3,10]),(0,[1,2,3])],[],[(10,[8])],[],[]⟩⟩,
⟨57,Tryz.f57,⟨[],[(2,[2]),(1,[1,3]),(0,[1])],[],[],[],[]⟩⟩,
⟨120,Tryz.f120,⟨[5],[(3,[2]),(2,[2]),(1,[0,4]),(0,[0])],[],[],[],[]⟩⟩,
⟨140,Tryz.f140,⟨[73,78],[(17,[6,7]),(16,[6,9]),(15,[0,1,2,6,9,46,47,48]),(14,[0,1,2,6,9,46,47,48]),(13,[6,7]),(12,[0,1,2,6,9,12,46,47,48,67]),(11,[0,1,2,6,9,12,13,46,47,48]),(10,[6,7]),(9,[0,1,2,6,9,46,47,48,56]),(8,[0,1,2,6,9,11,46,47,48]),(7,[0,1,2,6,9,46,47,48,49]),(6,[0,1,2,6,9,46,47,48]),(5,[0,1,2,6,8,9]),(4,[0,1,2,6,8]),(3,[0,1,2,6,8]),(2,[6,7]),(1,[0,1,2,6,19]),(0,[0,1,2,6])],[],[(11,[12])],[],[]⟩⟩,
⟨113,Tryz.f113,⟨[],[(8,[2,3]),(7,[2,3]),(6,[2,5,7,25]),(5,[2,5,7]),(4,[2,3]),(3,[2,5,20]),(2,[0,2,4,5,6]),(1,[0,2,4]),(0,[0,2])],[],[],[],[]⟩⟩,
⟨139,Tryz.f139,⟨[29],[(8,[4]),(7,[1,5,8,9,10]),(6,[1,5,8,9,10]),(5,[1,5,7,8,9,10,22]),(4,[1,5,7,8,9,10]),(3,[1,5,8,9,10,11]),(2,[1,5,8,9,10]),(1,[0,1,5]),(0,[0,1])],[],[(4,[7])],[],[]⟩⟩,
⟨138,Tryz.f138,⟨[32,56],[(17,[4,5]),(16,[1,6,13,14,15]),(7,[1,6,13,14,15]),(15,[1,6,8,9,13,14,15]),(14,[1,6,8,9,11,13,14,15]),(13,[4,5]),(12,[1,6,8,9,10,11,12,13,14,15,51]),(11,[1,6,8,9,10,11,12,13,14,15]),(10,[1,6,8,9,13,14,15,41]),(9,[1,6,8,9,13,14,15]),(8,[1,6,8,13,14,15,33]),(6,[1,6,8,13,14,15,24]),(5,[1,6,8,13,14,15,19]),(4,[1,6,8,13,14,15]),(3,[1,6,13,14,15,16]),(2,[1,6,13,14,15]),(1,[0,1,6]),(0,[0,1])],[],[(4,[8])],[],[]⟩⟩,
⟨112,Tryz.f112,⟨[46,61],[(28,[2,3]),(27,[0,2,4,67,68,69]),(26,[2,3]),(25,[0,2,4,67,68,69,84]),(24,[0,2,4,5,67,68,69]),(23,[0,2,4,12,13,67,68,69]),(22,[0,2,4,67,68,69,70]),(21,[0,2,4,67,68,69]),(20,[0,2,4,50,51,52]),(19,[0,2,4,50,51,52]),(18,[0,2,4,11,50,51,52]),(17,[0,2,4,50,51,52,53]),(16,[0,2,4,50,51,52]),(15,[0,2,4,32,33,34]),(14,[0,2,4,32,33,34]),(13,[2,3]),(12,[0,2,4,9,32,33,34,39]),(11,[0,2,4,9,32,33,34]),(10,[0,2,4,32,33,34,35]),(9,[0,2,4,32,33,34]),(8,[2,3]),(7,[0,2,4,6,7,29]),(6,[0,2,4,6,7]),(5,[2,3]),(4,[0,2,4,21]),(3,[0,2,4,5]),(2,[0,2,4]),(1,[0,2,4]),(0,[0,2])],[],[],[],[]⟩⟩,
⟨137,Tryz.f137,⟨[],[(9,[4,5]),(8,[4,5]),(7,[0,1,43]),(6,[0,1,6]),(5,[0,1,6]),(4,[0,1,6]),(3,[0,1,19]),(2,[4,5]),(1,[0,1,8]),(0,[0,1])],[],[],[],[]⟩⟩,
⟨110,Tryz.f110,⟨[91,211],[(31,[4,5]),(30,[0,9,189,190]),(29,[0,9,189,190]),(28,[0,9,189,190,191]),(27,[0,9,189,190]),(22,[4,5]),(24,[4,5]),(26,[4,5]),(25,[0,7,9,177]),(23,[0,1,7,9,165]),(21,[0,1,7,9,162]),(20,[0,1,7,8,9]),(19,[0,1,6,9]),(18,[0,1,6,9]),(17,[4,5]),(16,[0,1,6,122]),(15,[4,5]),(14,[0,1,6,111]),(13,[0,1,6]),(12,[0,1,6,7]),(7,[4,5]),(9,[4,5]),(11,[4,5]),(10,[0,1,6,7,58]),(8,[0,1,6,7,48]),(6,[0,1,6,7,45]),(5,[0,1,6,7,8]),(4,[0,1,6]),(3,[0,1,6]),(2,[4,5]),(1,[0,1,19]),(0,[0,1])],[],[],[],[]⟩⟩,
⟨83,Tryz.f83,⟨[],[(6,[4,5]),(8,[4,5]),(7,[1,6,28]),(5,[1,6,7,8,24]),(4,[1,6,7,8]),(3,[1,6]),(2,[4,5]),(1,[0,1,14]),(0,[0,1])],[],[],[],[]⟩⟩,
⟨109,Tryz.f109,⟨[],[(6,[4,5,6]),(5,[7]),(2,[4,5,6]),(4,[4,5,6]),(3,[0,1,17]),(1,[0,1,8]),(0,[0,1])],[],[],[],[]⟩⟩,
⟨82,Tryz.f82,⟨[],[(6,[4,5,6]),(5,[4,5,6]),(4,[0,1,7,8,26]),(3,[4,5,6]),(2,[0,1,7,8,9,18]),(1,[0,1,7,8,9]),(0,[0,1])],[],[],[],[]⟩⟩,
⟨65,Tryz.f65,⟨[],[(5,[2]),(4,[2]),(3,[6]),(2,[3,4]),(1,[3]),(0,[0])],[],[],[],[]⟩⟩,
⟨42,Tryz.f42,⟨[],[(4,[4]),(3,[5]),(2,[5,9]),(1,[1,5]),(0,[0,1])],[],[],[],[]⟩⟩,
⟨76,Tryz.f76,⟨[],[(5,[2]),(4,[0,3]),(3,[0,3]),(2,[0,3,11]),(1,[0,3]),(0,[0])],[],[],[],[]⟩⟩,
⟨77,Tryz.f77,⟨[],[(3,[2]),(2,[2]),(1,[0,4]),(0,[0])],[],[],[],[]⟩⟩,
⟨41,Tryz.f41,⟨[],[(8,[4]),(7,[4]),(6,[5,32]),(5,[0,5]),(4,[0,1,5,16]),(3,[0,1,5]),(2,[0,1,5,12]),(1,[0,1,5]),(0,[0,1])],[],[],[],[]⟩⟩,
⟨75,Tryz.f75,⟨[],[(1,[2]),(0,[0])],[],[],[],[]⟩⟩,
⟨40,Tryz.f40,⟨[],[(1,[2]),(0,[0])],[],[],[],[]⟩⟩,
⟨39,Tryz.f39,⟨[11],[(1,[6]),(0,[0,1,2])],[],[],[(11,0)],[]⟩⟩,
⟨38,Tryz.f38,⟨[],[(1,[2]),(0,[0])],[],[],[],[]⟩⟩,
⟨18,Tryz.f18,⟨[12,23,27,33,44,48,54,66,81,89,99,110,114,124,135,139,145,150,164,169],[(44,[4]),(43,[5,8]),(42,[5,8,166]),(41,[3,5,8]),(40,[3,5]),(39,[3,5,6,7,160]),(9,[3,5,6,7]),(8,[3,5,6,7,29]),(7,[3,5,6,7]),(6,[3,5,6,7,18]),(5,[3,5,6,7]),(15,[3,5,6,7]),(14,[3,5,6,7,50]),(13,[3,5,6,7]),(12,[3,5,6,7,39]),(11,[3,5,6,7]),(19,[3,5,6,7]),(18,[3,5,6,7,60]),(17,[3,5,6,7]),(25,[3,5,6,7]),(24,[2,3,5,6,7,91]),(23,[2,3,5,6,7]),(22,[2,3,5,6,7,72]),(21,[2,3,5,6,7]),(29,[3,5,6,7]),(28,[3,5,6,7,105]),(27,[3,5,6,7]),(33,[3,5,6,7]),(32,[3,5,6,7,120]),(31,[3,5,6,7]),(38,[3,5,6,7]),(37,[3,5,6,7]),(36,[3,5,6,7,130]),(35,[3,5,6,7]),(34,[3,5,6,7,125]),(30,[2,3,5,6,7,115]),(26,[2,3,5,6,7,100]),(20,[2,3,5,6,7,67]),(16,[2,3,5,6,7,55]),(10,[2,3,5,6,7,34]),(4,[2,3,5,6,7,13]),(3,[2,3,5,6,7]),(2,[2,3,5,6]),(1,[2,3,5]),(0,[2,3])],[(40,[6])],[],[(12,0),(23,0),(27,0),(33,0),(44,0),(48,0),(54,0),(65,0),(66,0),(81,0),(89,0),(99,0),(110,0),(114,0),(124,0),(135,0),(139,0),(145,0),(150,0),(164,0),(169,0)],[]⟩⟩,
⟨73,Tryz.f73,⟨[],[(36,[2]),(33,[2]),(32,[155]),(35,[2]),(34,[163]),(31,[1,135]),(30,[2]),(29,[1,132]),(28,[1,7]),(20,[1,5]),(25,[1,5,6]),(27,[2]),(26,[1,5,6,104]),(24,[1,5,6,91]),(23,[1,5,6]),(22,[2]),(21,[1,5,88]),(19,[1,5,71]),(18,[1,5]),(17,[2]),(16,[1,66]),(9,[1,4]),(11,[1,4]),(13,[1,4]),(15,[1,4]),(14,[1,3,4,46]),(12,[1,3,4,30,39]),(10,[1,3,4,30,35]),(8,[1,3,4,30,31]),(7,[1,3,4,30]),(6,[1,3,4]),(5,[1,3]),(4,[2]),(3,[1,23]),(2,[2]),(1,[1,15]),(0,[1])],[],[],[],[]⟩⟩,
⟨34,Tryz.f34,⟨[],[(14,[6,7]),(9,[1,2,3,9]),(13,[1,2,3,9]),(12,[6,7]),(11,[1,3,9,10,11,47]),(10,[1,3,9,10,11]),(8,[1,2,3,9,31]),(7,[1,2,3,9]),(6,[1,2,3]),(5,[6,7]),(4,[1,2,3,8,22]),(3,[1,2,3,8]),(2,[6,7]),(1,[1,2,3,17]),(0,[1,2,3])],[],[],[],[]⟩⟩]
set_option maxRecDepth 100000 in
theorem k_aj:cFunc Tryz.prog a_aj Tryz.f89=some i_aj:=yk
set_option maxRecDepth 100000 in
theorem k_ah:cFunc Tryz.prog a_ah Tryz.f88=some i_ah:=yk
set_option maxRecDepth 100000 in
theorem k_ao:cFunc Tryz.prog a_ao Tryz.f87=some i_ao:=yk
set_option maxRecDepth 100000 in
theorem k_ae:cFunc Tryz.prog a_ae Tryz.f86=some i_ae:=yk
set_option maxRecDepth 100000 in
theorem k_bg:cFunc Tryz.prog a_bg Tryz.f85=some i_bg:=yk
set_option maxRecDepth 100000 in
theorem k_ai:cFunc Tryz.prog a_ai Tryz.f84=some i_ai:=yk
set_option maxRecDepth 100000 in
theorem k_ag:cFunc Tryz.prog a_ag Tryz.f46=some i_ag:=yk
set_option maxRecDepth 100000 in
theorem k_ak:cFunc Tryz.prog a_ak Tryz.f45=some i_ak:=yk
set_option maxRecDepth 100000 in
theorem k_al:cFunc Tryz.prog a_al Tryz.f23=some i_al:=yk
set_option maxRecDepth 100000 in
theorem k_bq:cFunc Tryz.prog a_bq Tryz.f70=some i_bq:=yk
set_option maxRecDepth 100000 in
theorem k_br:cFunc Tryz.prog a_br Tryz.f81=some i_br:=yk
set_option maxRecDepth 100000 in
theorem k_bl:cFunc Tryz.prog a_bl Tryz.f108=some i_bl:=yk
set_option maxRecDepth 100000 in
theorem k_bt:cFunc Tryz.prog a_bt Tryz.f80=some i_bt:=yk
set_option maxRecDepth 100000 in
theorem k_a9:cFunc Tryz.prog a_a9 Tryz.f135=some i_a9:=yk
set_option maxRecDepth 100000 in
theorem k_af:cFunc Tryz.prog a_af Tryz.f106=some i_af:=yk
set_option maxRecDepth 100000 in
theorem k_a8:cFunc Tryz.prog a_a8 Tryz.f79=some i_a8:=yk
set_option maxRecDepth 100000 in
theorem k_aq:cFunc Tryz.prog a_aq Tryz.f44=some i_aq:=yk
set_option maxRecDepth 100000 in
theorem k_az:cFunc Tryz.prog a_az Tryz.f66=some i_az:=yk
set_option maxRecDepth 100000 in
theorem k_bo:cFunc Tryz.prog a_bo Tryz.f105=some i_bo:=yk
set_option maxRecDepth 100000 in
theorem k_bk:cFunc Tryz.prog a_bk Tryz.f78=some i_bk:=yk
set_option maxRecDepth 100000 in
theorem k_bd:cFunc Tryz.prog a_bd Tryz.f43=some i_bd:=yk
set_option maxRecDepth 100000 in
theorem k_bc:cFunc Tryz.prog a_bc Tryz.f21=some i_bc:=yk
set_option maxRecDepth 100000 in
theorem k_au:cFunc Tryz.prog a_au Tryz.f8=some i_au:=yk
set_option maxRecDepth 100000 in
theorem k_ap:cFunc Tryz.prog a_ap Tryz.f20=some i_ap:=yk
set_option maxRecDepth 100000 in
theorem k_am:cFunc Tryz.prog a_am Tryz.f19=some i_am:=yk
set_option maxRecDepth 100000 in
theorem k_ay:cFunc Tryz.prog a_ay Tryz.f7=some i_ay:=yk
set_option maxRecDepth 100000 in
theorem k_bu:cFunc Tryz.prog a_bu Tryz.f74=some i_bu:=yk
set_option maxRecDepth 100000 in
theorem k_ac:cFunc Tryz.prog a_ac Tryz.f17=some i_ac:=yk
set_option maxRecDepth 100000 in
theorem k_ax:cFunc Tryz.prog a_ax Tryz.f16=some i_ax:=yk
set_option maxRecDepth 100000 in
theorem k_aw:cFunc Tryz.prog a_aw Tryz.f37=some i_aw:=yk
set_option maxRecDepth 100000 in
theorem k_bm:cFunc Tryz.prog a_bm Tryz.f36=some i_bm:=yk
set_option maxRecDepth 100000 in
theorem k_av:cFunc Tryz.prog a_av Tryz.f15=some i_av:=yk
set_option maxRecDepth 100000 in
theorem k_bh:cFunc Tryz.prog a_bh Tryz.f14=some i_bh:=yk
set_option maxRecDepth 100000 in
theorem k_ba:cFunc Tryz.prog a_ba Tryz.f13=some i_ba:=yk
set_option maxRecDepth 100000 in
theorem k_bp:cFunc Tryz.prog a_bp Tryz.f12=some i_bp:=yk
set_option maxRecDepth 100000 in
theorem k_aa:cFunc Tryz.prog a_aa Tryz.f6=some i_aa:=yk
set_option maxRecDepth 100000 in
theorem k_ab:cFunc Tryz.prog a_ab Tryz.f3=some i_ab:=yk
theorem tbl_ok:Entries Tryz.prog tbl:=
 .cons (.of Tryz.func89 yk k_aj) <|
 .cons (.of Tryz.func88 yk k_ah) <|
 .cons (.of Tryz.func87 yk k_ao) <|
 .cons (.of Tryz.func86 yk k_ae) <|
 .cons (.of Tryz.func85 yk k_bg) <|
 .cons (.of Tryz.func84 yk k_ai) <|
 .cons (.of Tryz.func46 yk k_ag) <|
 .cons (.of Tryz.func45 yk k_ak) <|
 .cons (.of Tryz.func23 yk k_al) <|
 .cons (.of Tryz.func70 yk k_bq) <|
 .cons (.of Tryz.func81 yk k_br) <|
 .cons (.of Tryz.func108 yk k_bl) <|
 .cons (.of Tryz.func80 yk k_bt) <|
 .cons (.of Tryz.func135 yk k_a9) <|
 .cons (.of Tryz.func106 yk k_af) <|
 .cons (.of Tryz.func79 yk k_a8) <|
 .cons (.of Tryz.func44 yk k_aq) <|
 .cons (.of Tryz.func66 yk k_az) <|
 .cons (.of Tryz.func105 yk k_bo) <|
 .cons (.of Tryz.func78 yk k_bk) <|
 .cons (.of Tryz.func43 yk k_bd) <|
 .cons (.of Tryz.func21 yk k_bc) <|
 .cons (.of Tryz.func8 yk k_au) <|
 .cons (.of Tryz.func20 yk k_ap) <|
 .cons (.of Tryz.func19 yk k_am) <|
 .cons (.of Tryz.func7 yk k_ay) <|
 .cons (.of Tryz.func74 yk k_bu) <|
 .cons (.of Tryz.func17 yk k_ac) <|
 .cons (.of Tryz.func16 yk k_ax) <|
 .cons (.of Tryz.func37 yk k_aw) <|
 .cons (.of Tryz.func36 yk k_bm) <|
 .cons (.of Tryz.func15 yk k_av) <|
 .cons (.of Tryz.func14 yk k_bh) <|
 .cons (.of Tryz.func13 yk k_ba) <|
 .cons (.of Tryz.func12 yk k_bp) <|
 .cons (.of Tryz.func6 yk k_aa) <|
 .cons (.of Tryz.func3 yk k_ab) <|
 .nil
theorem tab_ok:ATab Tryz.prog tab:=
 .cons Tryz.func168 yk <|
 .cons Tryz.func167 yk <|
 .cons Tryz.func188 yk <|
 .cons Tryz.func166 yk <|
 .cons Tryz.func187 yk <|
 .cons Tryz.func152 yk <|
 .cons Tryz.func186 yk <|
 .cons Tryz.func185 yk <|
 .cons Tryz.func165 yk <|
 .cons Tryz.func184 yk <|
 .cons Tryz.func183 yk <|
 .cons Tryz.func164 yk <|
 .cons Tryz.func142 yk <|
 .cons Tryz.func143 yk <|
 .cons Tryz.func163 yk <|
 .cons Tryz.func201 yk <|
 .cons Tryz.func207 yk <|
 .cons Tryz.func200 yk <|
 .cons Tryz.func199 yk <|
 .cons Tryz.func205 yk <|
 .cons Tryz.func198 yk <|
 .cons Tryz.func193 yk <|
 .cons Tryz.func204 yk <|
 .cons Tryz.func197 yk <|
 .cons Tryz.func182 yk <|
 .cons Tryz.func162 yk <|
 .cons Tryz.func160 yk <|
 .cons Tryz.func161 yk <|
 .cons Tryz.func159 yk <|
 .cons Tryz.func196 yk <|
 .cons Tryz.func181 yk <|
 .cons Tryz.func158 yk <|
 .cons Tryz.func141 yk <|
 .cons Tryz.func99 yk <|
 .cons Tryz.func115 yk <|
 .cons Tryz.func95 yk <|
 .cons Tryz.func58 yk <|
 .cons Tryz.func118 yk <|
 .cons Tryz.func93 yk <|
 .cons Tryz.func57 yk <|
 .cons Tryz.func120 yk <|
 .cons Tryz.func140 yk <|
 .cons Tryz.func113 yk <|
 .cons Tryz.func139 yk <|
 .cons Tryz.func138 yk <|
 .cons Tryz.func112 yk <|
 .cons Tryz.func137 yk <|
 .cons Tryz.func110 yk <|
 .cons Tryz.func83 yk <|
 .cons Tryz.func109 yk <|
 .cons Tryz.func82 yk <|
 .cons Tryz.func65 yk <|
 .cons Tryz.func42 yk <|
 .cons Tryz.func76 yk <|
 .cons Tryz.func77 yk <|
 .cons Tryz.func41 yk <|
 .cons Tryz.func75 yk <|
 .cons Tryz.func40 yk <|
 .cons Tryz.func39 yk <|
 .cons Tryz.func38 yk <|
 .cons Tryz.func18 yk <|
 .cons Tryz.func73 yk <|
 .cons Tryz.func34 yk <|
 .nil
def exts:FuncId→Option (List D→Option V):=fun f=>if f=n_cw then some (aio) else if f=n_cm then some (asf) else if f=n_cd then some (xd) else if f=n_cg then some (xe) else if f=n_bx then some (xc) else if f=n_bn then some (xSeq n_bv) else none
def iters:FuncId→Option (List D→Option (List (List D))):=fun f=>if f=n_bv then some (uh 5) else none
noncomputable def cfg:Cfg:={funcs:=fnsOf Tryz.prog tbl tab,meth:=fun _ _=>none,glob:=fun _=>none,gobj:=gobjs,intTy:=fun _=>false,clip:=fun f=>clips.contains f,ext:=exts,iter:=iters}
noncomputable abbrev X_aj:Kx:=fx cfg 0 [.t 4,.t 5]
theorem e_aj:Oe cfg n_aj 2 [.t 4,.t 5] c_aj:=fun _ _ _=>au (fn:=i_aj) rfl rfl _ _ _
theorem o_aj (x0 x1:D):Of X_aj n_aj [.d x0,.d x1] c_aj:=e_aj 0 _ _ rfl rfl
noncomputable abbrev X_ah:Kx:=fx cfg 0 [.t 2,.t 3]
theorem e_ah:Oe cfg n_ah 1 [.t 2,.t 3] c_ah:=fun _ _ _=>au (fn:=i_ah) rfl rfl _ _ _
theorem o_ah (x0:D):Of X_ah n_ah [.d x0] c_ah:=e_ah 0 _ _ rfl rfl
noncomputable abbrev X_ao:Kx:=fx cfg 0 [.cell 2 (some 6),.t 3]
theorem e_ao:Oe cfg n_ao 1 [.cell 2 (some 6),.t 3] c_ao:=fun _ _ _=>au (fn:=i_ao) rfl rfl _ _ _
theorem o_ao (x0:D):Of X_ao n_ao [.d x0] c_ao:=e_ao 0 _ _ rfl rfl
noncomputable abbrev X_ae:Kx:=fx cfg 0 [.t 2,.t 3]
theorem e_ae:Oe cfg n_ae 1 [.t 2,.t 3] c_ae:=fun _ _ _=>au (fn:=i_ae) rfl rfl _ _ _
theorem o_ae (x0:D):Of X_ae n_ae [.d x0] c_ae:=e_ae 0 _ _ rfl rfl
noncomputable abbrev X_bg:Kx:=fx cfg 0 [.t 4,.t 5]
theorem e_bg:Oe cfg n_bg 2 [.t 4,.t 5] c_bg:=fun _ _ _=>au (fn:=i_bg) rfl rfl _ _ _
theorem o_bg (x0 x1:D):Of X_bg n_bg [.d x0,.d x1] c_bg:=e_bg 0 _ _ rfl rfl
noncomputable abbrev X_ai:Kx:=fx cfg 0 [.cell 2 (some 9),.t 3]
theorem e_ai:Oe cfg n_ai 1 [.cell 2 (some 9),.t 3] c_ai:=fun _ _ _=>au (fn:=i_ai) rfl rfl _ _ _
theorem o_ai (x0:D):Of X_ai n_ai [.d x0] c_ai:=e_ai 0 _ _ rfl rfl
noncomputable abbrev X_ag:Kx:=fx cfg 0 [.cell 2 (some 12),.t 3]
theorem e_ag:Oe cfg n_ag 1 [.cell 2 (some 12),.t 3] c_ag:=fun _ _ _=>au (fn:=i_ag) rfl rfl _ _ _
theorem o_ag (x0:D):Of X_ag n_ag [.d x0] c_ag:=e_ag 0 _ _ rfl rfl
noncomputable abbrev X_ak:Kx:=fx cfg 0 [.t 8,.t 9]
theorem e_ak:Oe cfg n_ak 4 [.t 8,.t 9] c_ak:=fun _ _ _=>au (fn:=i_ak) rfl rfl _ _ _
theorem o_ak (x0 x1 x2 x3:D):Of X_ak n_ak [.d x0,.d x1,.d x2,.d x3] c_ak:=e_ak 0 _ _ rfl rfl
noncomputable abbrev X_al:Kx:=fx cfg 0 [.cell 4 (some 12),.t 5]
theorem e_al:Oe cfg n_al 2 [.cell 4 (some 12),.t 5] c_al:=fun _ _ _=>au (fn:=i_al) rfl rfl _ _ _
theorem o_al (x0 x1:D):Of X_al n_al [.d x0,.d x1] c_al:=e_al 0 _ _ rfl rfl
noncomputable abbrev X_br:Kx:=fx cfg 0 [.t 4,.t 5]
theorem e_br:Oe cfg n_br 2 [.t 4,.t 5] c_br:=fun _ _ _=>au (fn:=i_br) rfl rfl _ _ _
theorem o_br (x0 x1:D):Of X_br n_br [.d x0,.d x1] c_br:=e_br 0 _ _ rfl rfl
noncomputable abbrev X_bl:Kx:=fx cfg 0 [.cell 6 (some 5),.cell 7 none]
theorem e_bl:Oe cfg n_bl 3 [.cell 6 (some 5),.cell 7 none] c_bl:=fun _ _ _=>au (fn:=i_bl) rfl rfl _ _ _
theorem o_bl (x0 x1 x2:D):Of X_bl n_bl [.d x0,.d x1,.d x2] c_bl:=e_bl 0 _ _ rfl rfl
noncomputable abbrev X_bt:Kx:=fx cfg 0 [.t 4,.t 5]
theorem e_bt:Oe cfg n_bt 2 [.t 4,.t 5] c_bt:=fun _ _ _=>au (fn:=i_bt) rfl rfl _ _ _
theorem o_bt (x0 x1:D):Of X_bt n_bt [.d x0,.d x1] c_bt:=e_bt 0 _ _ rfl rfl
noncomputable abbrev X_a9:Kx:=fx cfg 0 [.t 4,.t 5,.t 6]
theorem e_a9:Oe cfg n_a9 2 [.t 4,.t 5,.t 6] c_a9:=fun _ _ _=>au (fn:=i_a9) rfl rfl _ _ _
theorem o_a9 (x0 x1:D):Of X_a9 n_a9 [.d x0,.d x1] c_a9:=e_a9 0 _ _ rfl rfl
noncomputable abbrev X_af:Kx:=fx cfg 0 [.cell 4 (some 5),.t 5,.t 6]
theorem e_af:Oe cfg n_af 2 [.cell 4 (some 5),.t 5,.t 6] c_af:=fun _ _ _=>au (fn:=i_af) rfl rfl _ _ _
theorem o_af (x0 x1:D):Of X_af n_af [.d x0,.d x1] c_af:=e_af 0 _ _ rfl rfl
noncomputable abbrev X_a8:Kx:=fx cfg 0 [.t 2,.t 3]
theorem e_a8:Oe cfg n_a8 1 [.t 2,.t 3] c_a8:=fun _ _ _=>au (fn:=i_a8) rfl rfl _ _ _
theorem o_a8 (x0:D):Of X_a8 n_a8 [.d x0] c_a8:=e_a8 0 _ _ rfl rfl
noncomputable abbrev X_aq:Kx:=fx cfg 0 [.cell 2 (some 4),.t 3]
theorem e_aq:Oe cfg n_aq 1 [.cell 2 (some 4),.t 3] c_aq:=fun _ _ _=>au (fn:=i_aq) rfl rfl _ _ _
theorem o_aq (x0:D):Of X_aq n_aq [.d x0] c_aq:=e_aq 0 _ _ rfl rfl
noncomputable abbrev X_az:Kx:=fx cfg 0 [.t 2]
theorem e_az:Oe cfg n_az 1 [.t 2] c_az:=fun _ _ _=>au (fn:=i_az) rfl rfl _ _ _
theorem o_az (x0:D):Of X_az n_az [.d x0] c_az:=e_az 0 _ _ rfl rfl
noncomputable abbrev X_bo:Kx:=fx cfg 0 [.t 4]
theorem e_bo:Oe cfg n_bo 2 [.t 4] c_bo:=fun _ _ _=>au (fn:=i_bo) rfl rfl _ _ _
theorem o_bo (x0 x1:D):Of X_bo n_bo [.d x0,.d x1] c_bo:=e_bo 0 _ _ rfl rfl
noncomputable abbrev X_bk:Kx:=fx cfg 0 [.t 4]
theorem e_bk:Oe cfg n_bk 2 [.t 4] c_bk:=fun _ _ _=>au (fn:=i_bk) rfl rfl _ _ _
theorem o_bk (x0 x1:D):Of X_bk n_bk [.d x0,.d x1] c_bk:=e_bk 0 _ _ rfl rfl
noncomputable abbrev X_bd:Kx:=fx cfg 0 [.t 2,.t 3,.t 4]
theorem e_bd:Oe cfg n_bd 1 [.t 2,.t 3,.t 4] c_bd:=fun _ _ _=>au (fn:=i_bd) rfl rfl _ _ _
theorem o_bd (x0:D):Of X_bd n_bd [.d x0] c_bd:=e_bd 0 _ _ rfl rfl
noncomputable abbrev X_bc:Kx:=fx cfg 0 [.cell 2 (some 4),.t 3,.t 4]
theorem e_bc:Oe cfg n_bc 1 [.cell 2 (some 4),.t 3,.t 4] c_bc:=fun _ _ _=>au (fn:=i_bc) rfl rfl _ _ _
theorem o_bc (x0:D):Of X_bc n_bc [.d x0] c_bc:=e_bc 0 _ _ rfl rfl
noncomputable abbrev X_au:Kx:=fx cfg 0 [.cell 2 (some 16),.t 3]
theorem e_au:Oe cfg n_au 1 [.cell 2 (some 16),.t 3] c_au:=fun _ _ _=>au (fn:=i_au) rfl rfl _ _ _
theorem o_au (x0:D):Of X_au n_au [.d x0] c_au:=e_au 0 _ _ rfl rfl
noncomputable abbrev X_ap:Kx:=fx cfg 0 [.t 2,.t 3]
theorem e_ap:Oe cfg n_ap 1 [.t 2,.t 3] c_ap:=fun _ _ _=>au (fn:=i_ap) rfl rfl _ _ _
theorem o_ap (x0:D):Of X_ap n_ap [.d x0] c_ap:=e_ap 0 _ _ rfl rfl
noncomputable abbrev X_am:Kx:=fx cfg 0 [.t 6,.t 7]
theorem e_am:Oe cfg n_am 3 [.t 6,.t 7] c_am:=fun _ _ _=>au (fn:=i_am) rfl rfl _ _ _
theorem o_am (x0 x1 x2:D):Of X_am n_am [.d x0,.d x1,.d x2] c_am:=e_am 0 _ _ rfl rfl
noncomputable abbrev X_ay:Kx:=fx cfg 0 [.t 6]
noncomputable abbrev X_ac:Kx:=fx cfg 0 [.t 4]
theorem e_ac:Oe cfg n_ac 2 [.t 4] c_ac:=fun _ _ _=>au (fn:=i_ac) rfl rfl _ _ _
theorem o_ac (x0 x1:D):Of X_ac n_ac [.d x0,.d x1] c_ac:=e_ac 0 _ _ rfl rfl
noncomputable abbrev X_ax:Kx:=fx cfg 0 [.t 6]
theorem e_ax:Oe cfg n_ax 3 [.t 6] c_ax:=fun _ _ _=>au (fn:=i_ax) rfl rfl _ _ _
theorem o_ax (x0 x1 x2:D):Of X_ax n_ax [.d x0,.d x1,.d x2] c_ax:=e_ax 0 _ _ rfl rfl
noncomputable abbrev X_aw:Kx:=fx cfg 0 [.t 4]
theorem e_aw:Oe cfg n_aw 2 [.t 4] c_aw:=fun _ _ _=>au (fn:=i_aw) rfl rfl _ _ _
theorem o_aw (x0 x1:D):Of X_aw n_aw [.d x0,.d x1] c_aw:=e_aw 0 _ _ rfl rfl
noncomputable abbrev X_bm:Kx:=fx cfg 0 [.t 2]
theorem e_bm:Oe cfg n_bm 1 [.t 2] c_bm:=fun _ _ _=>au (fn:=i_bm) rfl rfl _ _ _
theorem o_bm (x0:D):Of X_bm n_bm [.d x0] c_bm:=e_bm 0 _ _ rfl rfl
noncomputable abbrev X_av:Kx:=fx cfg 0 [.t 6]
theorem e_av:Oe cfg n_av 3 [.t 6] c_av:=fun _ _ _=>au (fn:=i_av) rfl rfl _ _ _
theorem o_av (x0 x1 x2:D):Of X_av n_av [.d x0,.d x1,.d x2] c_av:=e_av 0 _ _ rfl rfl
noncomputable abbrev X_bh:Kx:=fx cfg 0 [.t 2]
theorem e_bh:Oe cfg n_bh 1 [.t 2] c_bh:=fun _ _ _=>au (fn:=i_bh) rfl rfl _ _ _
theorem o_bh (x0:D):Of X_bh n_bh [.d x0] c_bh:=e_bh 0 _ _ rfl rfl
noncomputable abbrev X_ba:Kx:=fx cfg 0 [.t 2]
theorem e_ba:Oe cfg n_ba 1 [.t 2] c_ba:=fun _ _ _=>au (fn:=i_ba) rfl rfl _ _ _
theorem o_ba (x0:D):Of X_ba n_ba [.d x0] c_ba:=e_ba 0 _ _ rfl rfl
noncomputable abbrev X_aa:Kx:=fx cfg 0 [.t 2,.t 3]
theorem e_aa:Oe cfg n_aa 1 [.t 2,.t 3] c_aa:=fun _ _ _=>au (fn:=i_aa) rfl rfl _ _ _
theorem o_aa (x0:D):Of X_aa n_aa [.d x0] c_aa:=e_aa 0 _ _ rfl rfl
noncomputable abbrev X_ab:Kx:=fx cfg 0 [.t 6]
theorem e_ab:Oe cfg n_ab 3 [.t 6] c_ab:=fun _ _ _=>au (fn:=i_ab) rfl rfl _ _ _
theorem o_ab (x0 x1 x2:D):Of X_ab n_ab [.d x0,.d x1,.d x2] c_ab:=e_ab 0 _ _ rfl rfl
@[go_sem] theorem u_bo:Uc cfg n_bo:=uc rfl
@[go_sem] theorem u_bk:Uc cfg n_bk:=uc rfl
@[go_sem] theorem u_ak:Uc cfg n_ak:=uc rfl
@[go_sem] theorem u_ct:Uc cfg n_ct:=uc rfl
@[go_sem] theorem u_cy:Uc cfg n_cy:=uc rfl
@[go_sem] theorem u_ag:Uc cfg n_ag:=uc rfl
@[go_sem] theorem u_cn:Uc cfg n_cn:=uc rfl
@[go_sem] theorem u_cx:Uc cfg n_cx:=uc rfl
@[go_sem] theorem u_bg:Uc cfg n_bg:=uc rfl
@[go_sem] theorem u_aj:Uc cfg n_aj:=uc rfl
@[go_sem] theorem u_ah:Uc cfg n_ah:=uc rfl
@[go_sem] theorem u_ae:Uc cfg n_ae:=uc rfl
@[go_sem] theorem u_ao:Uc cfg n_ao:=uc rfl
@[go_sem] theorem u_ai:Uc cfg n_ai:=uc rfl
@[go_sem] theorem u_bx:Uc cfg n_bx:=uc rfl
@[go_sem] theorem u_ab:Uc cfg n_ab:=uc rfl
@[go_sem] theorem u_cd:Uc cfg n_cd:=uc rfl
@[go_sem] theorem u_bp:Uc cfg n_bp:=uc rfl
@[go_sem] theorem u_ba:Uc cfg n_ba:=uc rfl
@[go_sem] theorem u_cq:Uc cfg n_cq:=uc rfl
@[go_sem] theorem u_cm:Uc cfg n_cm:=uc rfl
@[go_sem] theorem u_aw:Uc cfg n_aw:=uc rfl
@[go_sem] theorem u_bu:Uc cfg n_bu:=uc rfl
@[go_sem] theorem u_ap:Uc cfg n_ap:=uc rfl
@[go_sem] theorem u_aa:Uc cfg n_aa:=uc rfl
@[go_sem] theorem u_ck:Uc cfg n_ck:=uc rfl
@[go_sem] theorem u_ac:Uc cfg n_ac:=uc rfl
@[go_sem] theorem u_bh:Uc cfg n_bh:=uc rfl
@[go_sem] theorem u_ay:Uc cfg n_ay:=uc rfl
@[go_sem] theorem u_ax:Uc cfg n_ax:=uc rfl
@[go_sem] theorem u_av:Uc cfg n_av:=uc rfl
@[go_sem] theorem u_bm:Uc cfg n_bm:=uc rfl
@[go_sem] theorem u_am:Uc cfg n_am:=uc rfl
@[go_sem] theorem u_cr:Uc cfg n_cr:=uc rfl
@[go_sem] theorem u_cz:Uc cfg n_cz:=uc rfl
@[go_sem] theorem u_a9:Uc cfg n_a9:=uc rfl
@[go_sem] theorem u_a8:Uc cfg n_a8:=uc rfl
@[go_sem] theorem u_bt:Uc cfg n_bt:=uc rfl
@[go_sem] theorem u_br:Uc cfg n_br:=uc rfl
@[go_sem] theorem u_af:Uc cfg n_af:=uc rfl
@[go_sem] theorem u_bl:Uc cfg n_bl:=uc rfl
@[go_sem] theorem u_aq:Uc cfg n_aq:=uc rfl
@[go_sem] theorem u_bd:Uc cfg n_bd:=uc rfl
@[go_sem] theorem u_bq:Uc cfg n_bq:=uc rfl
@[go_sem] theorem u_bn:Uc cfg n_bn:=uc rfl
@[go_sem] theorem u_ce:Uk cfg n_ce:=uk rfl
@[go_sem] theorem u_bw:Uk cfg n_bw:=uk rfl
@[go_sem] theorem u_bz:Uk cfg n_bz:=uk rfl
@[go_sem] theorem u_cf:Uk cfg n_cf:=uk rfl
@[go_sem] theorem u_b8:Uk cfg n_b8:=uk rfl
@[go_sem] theorem u_az:Uc cfg n_az:=uc rfl
@[go_sem] theorem u_au:Uc cfg n_au:=uc rfl
@[go_sem] theorem u_cg:Uc cfg n_cg:=uc rfl
@[go_sem] theorem u_al:Uc cfg n_al:=uc rfl
@[go_sem] theorem u_bc:Uc cfg n_bc:=uc rfl
@[go_sem] theorem u_cu:Uc cfg n_cu:=uc rfl
@[go_sem] theorem u_co:Uc cfg n_co:=uc rfl
@[go_sem] theorem u_cw:Uc cfg n_cw:=uc rfl
def a2u:=a38 r_aj_0.eq_1 r_aj_1.eq_1 r_aj_3.eq_1 r_aj_4.eq_1 av8.eq_1 av7.eq_1 av6.eq_1 av5.eq_1
def a2v:=a38 afs.eq_1 afr.eq_1 av9.eq_1 r_ah_0.eq_1 r_ah_1.eq_1 r_ah_3.eq_1 r_ah_4.eq_1 awn.eq_1
def a2w:=a38 awm.eq_1 awl.eq_1 awk.eq_1 awj.eq_1 af1.eq_1 af0.eq_1 r_ao_0.eq_1 r_ao_1.eq_1
def a2x:=a38 r_ao_2.eq_1 auq.eq_1 aup.eq_1 auo.eq_1 aun.eq_1 aum.eq_1 aul.eq_1 aut.eq_1
def a2y:=a38 aur.eq_1 r_ae_0.eq_1 r_ae_1.eq_1 r_ae_3.eq_1 r_ae_4.eq_1 axw.eq_1 axv.eq_1 axu.eq_1
def a2z:=a38 axt.eq_1 axs.eq_1 age.eq_1 agd.eq_1 agc.eq_1 agb.eq_1 aga.eq_1 af9.eq_1
def a20:=a38 af8.eq_1 af7.eq_1 r_bg_0.eq_1 r_bg_1.eq_1 r_bg_2.eq_1 r_bg_4.eq_1 r_ai_0.eq_1 r_ai_1.eq_1
def a21:=a38 r_ai_2.eq_1 awg.eq_1 awf.eq_1 awe.eq_1 awd.eq_1 awc.eq_1 awb.eq_1 awa.eq_1
def a22:=a38 afz.eq_1 afy.eq_1 afx.eq_1 afw.eq_1 afu.eq_1 aft.eq_1 r_ag_0.eq_1 r_ag_1.eq_1
def a23:=a38 r_ag_2.eq_1 r_ag_4.eq_1 r_ag_5.eq_1 r_ag_7.eq_1 r_ag_8.eq_1 r_ag_9.eq_1 aw6.eq_1 aw4.eq_1
def a24:=a38 aw3.eq_1 aw1.eq_1 aw0.eq_1 awy.eq_1 awx.eq_1 aww.eq_1 awt.eq_1 awr.eq_1
def a25:=a38 awq.eq_1 awo.eq_1 r_ak_0.eq_1 r_ak_1.eq_1 r_ak_3.eq_1 r_ak_5.eq_1 r_ak_7.eq_1 r_ak_8.eq_1
def a26:=a38 r_al_0.eq_1 r_al_1.eq_1 r_al_2.eq_1 r_al_3.eq_1 r_al_4.eq_1 r_al_5.eq_1 r_al_7.eq_1 r_al_8.eq_1
def a27:=a38 ava.eq_1 au9.eq_1 afq.eq_1 afp.eq_1 afo.eq_1 afn.eq_1 au8.eq_1 au7.eq_1
def a28:=a38 au6.eq_1 r_br_0.eq_1 r_br_1.eq_1 r_br_2.eq_1 r_bl_0.eq_1 r_bl_1.eq_1 aty.eq_1 atx.eq_1
def a29:=a38 atw.eq_1 atv.eq_1 r_bt_0.eq_1 r_bt_1.eq_1 r_bt_2.eq_1 r_a9_0.eq_1 r_a9_1.eq_1 r_a9_3.eq_1
def a3a:=a38 azb.eq_1 aza.eq_1 ay9.eq_1 ay8.eq_1 ay7.eq_1 ay6.eq_1 ahe.eq_1 ahd.eq_1
def a3b:=a38 ahc.eq_1 r_af_0.eq_1 r_af_1.eq_1 r_af_2.eq_1 r_af_3.eq_1 r_af_4.eq_1 r_af_5.eq_1 r_af_6.eq_1
def a3c:=a38 r_af_7.eq_1 r_af_8.eq_1 r_af_9.eq_1 axr.eq_1 axq.eq_1 axp.eq_1 axo.eq_1 axn.eq_1
def a3d:=a38 axm.eq_1 axl.eq_1 axk.eq_1 axj.eq_1 axi.eq_1 axh.eq_1 axg.eq_1 axf.eq_1
def a3e:=a38 axe.eq_1 axd.eq_1 axc.eq_1 axb.eq_1 axa.eq_1 aw9.eq_1 aw8.eq_1 aw7.eq_1
def a3f:=a38 af6.eq_1 af5.eq_1 af3.eq_1 af2.eq_1 r_a8_0.eq_1 r_a8_1.eq_1 r_a8_2.eq_1 r_a8_3.eq_1
def a3g:=a38 r_a8_4.eq_1 azg.eq_1 azf.eq_1 aze.eq_1 azd.eq_1 azc.eq_1 ahi.eq_1 ahh.eq_1
def a3h:=a38 ahg.eq_1 ahf.eq_1 r_aq_0.eq_1 r_aq_1.eq_1 r_aq_2.eq_1 r_aq_4.eq_1 r_aq_5.eq_1 r_aq_6.eq_1
def a3i:=a38 r_aq_7.eq_1 r_aq_8.eq_1 r_aq_9.eq_1 aui.eq_1 aug.eq_1 aue.eq_1 auc.eq_1 aub.eq_1
def a3j:=a38 at8.eq_1 r_az_0.eq_1 r_az_1.eq_1 r_az_3.eq_1 r_bo_0.eq_1 r_bo_1.eq_1 r_bk_0.eq_1 r_bk_1.eq_1
def a3k:=a38 r_bd_0.eq_1 r_bd_1.eq_1 r_bd_3.eq_1 r_bd_4.eq_1 r_bd_5.eq_1 r_bd_7.eq_1 r_bd_9.eq_1 r_bc_0.eq_1
def a3l:=a38 r_bc_1.eq_1 r_bc_3.eq_1 r_bc_4.eq_1 r_bc_6.eq_1 r_bc_7.eq_1 r_bc_9.eq_1 atz.eq_1 r_au_0.eq_1
def a3m:=a38 r_au_1.eq_1 r_au_2.eq_1 r_au_5.eq_1 r_au_6.eq_1 r_au_7.eq_1 r_au_8.eq_1 at6.eq_1 afm.eq_1
def a3n:=a38 afl.eq_1 afk.eq_1 afj.eq_1 afi.eq_1 at7.eq_1 r_ap_0.eq_1 r_ap_1.eq_1 r_ap_3.eq_1
def a3o:=a38 r_ap_5.eq_1 r_ap_6.eq_1 r_ap_7.eq_1 r_ap_8.eq_1 r_ap_9.eq_1 auk.eq_1 auj.eq_1 r_am_0.eq_1
def a3p:=a38 r_am_1.eq_1 r_am_3.eq_1 r_am_5.eq_1 r_am_6.eq_1 r_ay_0.eq_1 r_ay_1.eq_1 r_ay_2.eq_1 r_ay_3.eq_1
def a3q:=a38 r_ay_4.eq_1 r_ay_6.eq_1 r_ay_7.eq_1 r_ay_8.eq_1 r_ac_0.eq_1 r_ac_1.eq_1 r_ac_2.eq_1 ax3.eq_1
def a3r:=a38 ax2.eq_1 ax1.eq_1 ax0.eq_1 axz.eq_1 agp.eq_1 ago.eq_1 agn.eq_1 agm.eq_1
def a3s:=a38 agl.eq_1 agj.eq_1 agi.eq_1 agh.eq_1 agf.eq_1 ax4.eq_1 r_ax_0.eq_1 r_ax_1.eq_1
def a3t:=a38 r_ax_3.eq_1 r_aw_0.eq_1 at5.eq_1 at4.eq_1 at3.eq_1 at2.eq_1 r_bm_0.eq_1 r_bm_1.eq_1
def a3u:=a38 r_av_0.eq_1 r_av_1.eq_1 r_av_3.eq_1 r_bh_0.eq_1 r_bh_1.eq_1 r_ba_0.eq_1 r_ba_1.eq_1 r_ba_3.eq_1
def a3v:=a38 r_aa_0.eq_1 r_aa_1.eq_1 r_aa_3.eq_1 r_aa_4.eq_1 r_aa_5.eq_1 ayo.eq_1 ayn.eq_1 aym.eq_1
def a3w:=a38 ayl.eq_1 ay5.eq_1 ay4.eq_1 ay2.eq_1 ahb.eq_1 aha.eq_1 ag9.eq_1 ag8.eq_1
def a3x:=a38 ag7.eq_1 ag6.eq_1 ag5.eq_1 ag4.eq_1 ag3.eq_1 ay1.eq_1 ay0.eq_1 ag2.eq_1
def a3y:=a38 ayu.eq_1 ayt.eq_1 ag1.eq_1 agz.eq_1 ays.eq_1 ayr.eq_1 ayp.eq_1 r_ab_0.eq_1
def a3z:=a38 r_ab_1.eq_1 r_ab_3.eq_1 r_ab_4.eq_1 r_ab_5.eq_1 r_ab_6.eq_1 r_ab_7.eq_1 r_ab_8.eq_1 ayk.eq_1
def a30:=a38 ayj.eq_1 ayi.eq_1 agy.eq_1 agx.eq_1 agw.eq_1 ayh.eq_1 ayg.eq_1 ayf.eq_1
def a31:=a38 aye.eq_1 agv.eq_1 agu.eq_1 agt.eq_1 ags.eq_1 agr.eq_1 agq.eq_1 ayd.eq_1
attribute [go_sem] abi a14 a15 a16 a17 a18 a19 a2a a2b a2c a2d a2e a2f a2g a2h a2i a2j a2k a2l a2m a2n a2o a2p a2q a2r a2s a2t a2u a2v a2w a2x a2y a2z a20 a21 a22 a23 a24 a25 a26 a27 a28 a29 a3a a3b a3c a3d a3e a3f a3g a3h a3i a3j a3k a3l a3m a3n a3o a3p a3q a3r a3s a3t a3u a3v a3w a3x a3y a3z a30 a31
end Go.Proofs.YtplmdlobbfcknaaGreatDoor
