import Derived.Test.YtkdiccgfbfbjlaaGreatOrc
import Derived.Test.YtkdiccgfbfbjlaaGreatChecked
namespace Go.Proofs.YtkdiccgfbfbjlaaGreat
set_option linter.defProp false
open Go.Ev Go
variable {X:Kx} {K:List Kf} {s:St}
def aj8:TypeId:=9
def n_aa:FuncId:=7
def n_dg:FuncId:=8
def n_dr:FuncId:=12
def n_bk:FuncId:=15
def n_ag:FuncId:=16
def n_cf:FuncId:=17
def n_c8:FuncId:=34
def n_bo:FuncId:=35
def n_dv:FuncId:=36
def n_dz:FuncId:=37
def n_d7:FuncId:=38
def n_bd:FuncId:=39
def n_du:FuncId:=40
def n_di:FuncId:=41
def n_dy:FuncId:=42
def n_df:FuncId:=43
def n_d6:FuncId:=45
def n_dj:FuncId:=46
def n_cg:FuncId:=47
def n_av:FuncId:=48
def n_de:FuncId:=49
def n_bp:FuncId:=79
def n_ao:FuncId:=80
def n_cy:FuncId:=83
def n_c9:FuncId:=84
def n_au:FuncId:=85
def n_bq:FuncId:=86
def n_cz:FuncId:=87
def n_dn:FuncId:=89
def n_bu:FuncId:=90
def n_ay:FuncId:=91
def n_aj:FuncId:=112
def n_ct:FuncId:=113
def n_bc:FuncId:=114
def n_bz:FuncId:=115
def n_b5:FuncId:=116
def n_db:FuncId:=117
def n_bt:FuncId:=118
def n_ac:FuncId:=119
def n_cu:FuncId:=120
def n_az:FuncId:=121
def n_ak:FuncId:=122
def n_ai:FuncId:=129
def n_ab:FuncId:=130
def n_b8:FuncId:=131
def n_dl:FuncId:=132
def n_dm:FuncId:=133
def n_dx:FuncId:=145
def n_ba:FuncId:=146
def n_dq:FuncId:=147
def n_bv:FuncId:=148
def n_bg:FuncId:=149
def n_b6:FuncId:=150
def n_bx:FuncId:=151
def n_aw:FuncId:=152
def n_b7:FuncId:=153
def n_bh:FuncId:=154
def n_da:FuncId:=155
def n_aq:FuncId:=156
def n_ap:FuncId:=157
def n_br:FuncId:=158
def n_ae:FuncId:=159
def n_b4:FuncId:=160
def n_bn:FuncId:=161
def n_dc:FuncId:=164
def n_dh:FuncId:=165
def n_cr:FuncId:=170
def n_ah:FuncId:=171
def n_bw:FuncId:=172
def n_af:FuncId:=173
def n_cn:FuncId:=174
def n_ce:FuncId:=175
def n_cx:FuncId:=176
def n_dw:FuncId:=177
def n_dt:FuncId:=178
def n_ax:FuncId:=179
def n_cw:FuncId:=180
def n_b9:FuncId:=181
def n_am:FuncId:=182
def n_bm:FuncId:=184
def r_b8_0:=rg [
a8o 4 0] [0,1]
def r_b8_1:=rg [
a82 5 0,a82 6 1,a8r 7 n_dh [(.t 5),(.t 6)],a88 4 7] [4]
def c_b8:ICode:=(.seq r_b8_0 (.seq r_b8_1 .ret))
def i_b8:IFunc:=⟨2,[.t 4],c_b8⟩
def a_b8:=zzy (zzz 1 [r_b8_1,r_b8_0])
def r_ab_0:=rg [
a8o 6 0,a8n 7 false] [0,1,2]
def r_ab_1:=rg [
a82 12 0,a8z 13 false 12,a88 8 13] [0,1,2,8]
def r_ab_2:=rg [
a82 14 8,a8o 9 0,a88 10 14] [0,1,2,8,9,10]
def a2k:=rg [
a82 15 9,a82 16 10,a8q 17 .lss 15 16] [0,1,2,8,9,10,17]
def a2j:=rg [
a82 18 9,a82 19 10,a8q 20 .add 18 19,oo 21 (.cvInt .u64 (.t 20)),oo 22 (.bin .shr (.t 21) (.c (.int .u64 1))),oo 23 (.cvInt .i64 (.t 22)),a88 11 23] [0,1,2,8,9,10,11]
def a2i:=rg [
a82 24 2,a82 25 0,a82 26 11,a8x 27 1 25 26,a80 28 27,a82 29 1,oo 30 (.callv false (.t 24) [(.t 28),(.t 29)]),a8p 31 .lss 30 0] [0,1,2,8,9,10,11,31]
def a2h:=rg [
a82 32 11,a8p 33 .add 32 1,a88 9 33] [0,1,2,8,9,10]
def a2g:=rg [
a82 34 11,a88 10 34] [0,1,2,8,9,10]
def a5j:ICode:=(.seq (.seq a2k (.cond (.t 17) .skip (.exit 0))) (.block 1 (.seq a2j (.seq a2i (.cond (.t 31) a2h a2g)))))
def a6m:=a8v a5j.eq_1
def r_ab_9:=rg [
a82 35 9,a82 36 9,a82 37 8,a8q 38 .lss 36 37,a82 39 38,a8u 40 39 true 2,a8u 41 39 true 0,a8u 42 39 true 9,og 43 39 true (.idxA 1 (.t 41) (.t 42)),og 44 39 true (.load none (.t 43)),a8u 45 39 true 1,og 46 39 true (.callv false (.t 40) [(.t 44),(.t 45)]),og 47 39 true (.bin .eql (.t 46) (ci 0)),a85 48 39 47,a88 6 35,a88 7 48] [6,7]
def c_ab:ICode:=(.seq r_ab_0 (.seq r_ab_1 (.seq r_ab_2 (.seq (.block 0 (.loop a5j)) (.seq r_ab_9 .ret)))))
def i_ab:IFunc:=⟨3,[.t 6,.t 7],c_ab⟩
def a_ab:=zzy (zzz 7 [a2g,a2h,a2i,a2j,a2k,r_ab_2,r_ab_1,r_ab_0]++[(8,[6,7])])
def r_ay_0:=rg [
oo 2 (.alloc [.nilS,.nilS])] [0,2]
def r_ay_1:=rg [
oo 3 (.alloc [.nilS,.nilS])] [0,2,3]
def r_ay_2:=rg [
a82 11 0,a8r 12 n_dn [(.t 11)],a88 4 12] [0,2,3,4]
def r_ay_3:=rg [
a82 13 4,a8z 14 false 13,oo 15 (.mv (ci 0))] [0,2,3,4,13,14,15]
def azk:=rg [
a8q 16 .lss 15 14] [0,2,3,4,13,14,15,16]
def azj:=rg [
a8x 17 1 13 15,a80 18 17,a88 6 18] [0,2,3,4,6,13,14,15]
@[go_sem] def apn:Ops:=[
a8s 19 0 3,a80 20 19,a82 21 6,a8r 22 n_bc [(.t 21)],a8r 23 n_c9 [(.t 22)],oo 24 (.lit false 1 1 (.sl []) [(0,(.t 23))]),oo 25 (.append 1 24 (.t 20) (.t 24)),a8s 26 0 3,a87 1 26 25]
def apo:List (Nat×Nat):=[(0,2),(1,2),(0,3),(1,3),(0,4),(1,4),(0,5),(1,5)]
def azi:ICode:= .region apn apo [0,2,3,4,13,14,15]
@[go_sem] theorem r_ay_6_u:Gu X K s azi apo apn [0,2,3,4,13,14,15]:=go_regionU' _ _ _ _
def azh:=rg [
a8p 27 .add 15 1,a82 15 27] [0,2,3,4,13,14,15]
def a5b:ICode:=(.seq azk (.seq (.cond (.t 16) .skip (.exit 0)) (.seq (.block 1 (.seq azj azi)) azh)))
def a6n:=a8v a5b.eq_1
def r_ay_9:=rg [
a82 28 0,a8z 29 false 28,oo 30 (.mv (ci 0))] [2,3,4,28,29,30]
def agb:=rg [
a8q 31 .lss 30 29] [2,3,4,28,29,30,31]
def aga:=rg [
a8x 32 1 28 30,a80 33 32,a88 8 33] [2,3,4,8,28,29,30]
def af9:=rg [
a82 35 4,a82 36 8,a8r 37 n_ab [(.t 35),(.t 36),(.c (.fn n_b8))],a82 34 37,a89 38 34 0,a89 39 34 1,a88 9 38,a88 10 39] [2,3,4,9,28,29,30]
def af8:=rg [
a8s 40 1 3,a80 41 40,a82 42 9,oo 43 (.lit false 1 1 (.int .i64 0) [(0,(.t 42))]),oo 44 (.append 1 8 (.t 41) (.t 43)),a8s 45 1 3,a87 1 45 44] [2,3,4,28,29,30]
def af7:=rg [
a8p 46 .add 30 1,a82 30 46] [2,3,4,28,29,30]
def ajm:ICode:=(.seq agb (.seq (.cond (.t 31) .skip (.exit 2)) (.seq (.block 3 (.seq aga (.seq af9 af8))) af7)))
def a6o:=a8v ajm.eq_1
@[go_sem] def zk:Ops:=[
a8s 47 0 3,a80 48 47,oo 49 (.call true n_dl [(.t 48)]),a8s 50 1 3,a80 51 50,oo 52 (.call true n_dm [(.t 51)]),a8s 53 0 3,a87 1 53 49,a8s 54 1 3,a87 1 54 52]
def zl:List (Nat×Nat):=[(0,3),(1,3),(2,3),(0,4),(1,4),(2,4),(5,6)]
def azm:ICode:= .region zk zl [2,3]
@[go_sem] theorem r_ay_16_u:Gu X K s azm zl zk [2,3]:=go_regionU' _ _ _ _
def azl:=rg [
a81 55 2 3,a87 2 2 55] [2]
def c_ay:ICode:=(.seq r_ay_0 (.seq r_ay_1 (.seq r_ay_2 (.seq (.seq r_ay_3 (.block 0 (.loop a5b))) (.seq (.seq r_ay_9 (.block 2 (.loop ajm))) (.seq azm (.seq azl .ret)))))))
def i_ay:IFunc:=⟨1,[.cell 2 (some 2)],c_ay⟩
def a_ay:Advice:=⟨[25,44,49,52],a8y [(13,af8),(7,azh),(5,azj),(4,azk),(3,r_ay_3),(2,r_ay_2),(1,r_ay_1),(0,r_ay_0)]++[(15,[2]),(14,[2,3]),(12,[2,3,4,28,29,30]),(11,[2,3,4,9,28,29,30]),(10,[2,3,4,8,28,29,30]),(9,[2,3,4,28,29,30,31]),(8,[2,3,4,28,29,30]),(6,[0,2,3,4,13,14,15])],[],[],[],[]⟩
def r_ai_0:=rg [
oo 4 (.asg (.c .nilS))] [0,1]
def r_ai_1:=rg [
a82 12 0,a8z 13 false 12,a8p 14 .eql 13 0] [0,1,14]
@[go_sem] def r_ai_2_o:Ops:=[
oo 15 (.lit false 1 0 (.int .u8 0) []),a88 4 15]
def r_ai_2:=rg r_ai_2_o [4]
def r_ai_3:=rg [
a82 16 0,a8z 17 false 16,a8p 18 .eql 17 1] [0,1,18]
def r_ai_4:=rg [
a82 19 0,oo 20 (.idxA 1 (.t 19) (ci 0)),a80 21 20,oo 22 (.append 1 1 (.c .nilS) (.t 21)),a88 4 22] [4]
def r_ai_5:=rg [
a8o 5 0] [0,1,5]
def r_ai_6:=rg [
a82 23 1,a8z 24 false 23,a8p 25 .gtr 24 0] [0,1,5,25]
@[go_sem] def r_ai_7_o:Ops:=[
a82 26 1,a8z 27 false 26,a82 28 0,a8z 29 false 28,a8p 30 .sub 29 1,oo 31 (.bin .quo (ci 9223372036854775807) (.t 30)),a8q 32 .geq 27 31]
def r_ai_7:=rg r_ai_7_o [0,1,5,32]
@[go_sem] def r_ai_8_o:Ops:=[
oo 33 (.mkI aj8 (.c (.str [98,121,116,101,115,58,32,74,111,105,110,32,111,117,116,112,117,116,32,108,101,110,103,116,104,32,111,118,101,114,102,108,111,119]))),ow (.bad)]
def r_ai_8:=rg r_ai_8_o [0,1,5]
@[go_sem] def r_ai_9_o:Ops:=[
a82 34 5,a82 35 1,a8z 36 false 35,a82 37 0,a8z 38 false 37,a8p 39 .sub 38 1,a8q 40 .mul 36 39,a8q 41 .add 34 40,a88 5 41]
def r_ai_9:=rg r_ai_9_o [0,1,5]
def a02:=rg [
a82 42 0,a8z 43 false 42,oo 44 (.mv (ci 0))] [0,1,5,42,43,44]
def ahc:=rg [
a8q 45 .lss 44 43] [0,1,5,42,43,44,45]
def ahb:=rg [
a8x 46 1 42 44,a80 47 46,a88 7 47] [0,1,5,7,42,43,44]
def aha:=rg [
a82 48 7,a8z 49 false 48,a82 50 5,oo 51 (.bin .sub (ci 9223372036854775807) (.t 50)),a8q 52 .gtr 49 51] [0,1,5,7,42,43,44,52]
@[go_sem] def a00:Ops:=[
oo 53 (.mkI aj8 (.c (.str [98,121,116,101,115,58,32,74,111,105,110,32,111,117,116,112,117,116,32,108,101,110,103,116,104,32,111,118,101,114,102,108,111,119]))),ow (.bad)]
def a01:=rg a00 [0,1,5,7,42,43,44]
def ag9:=rg [
a82 54 5,a82 55 7,a8z 56 false 55,a8q 57 .add 54 56,a88 5 57] [0,1,5,42,43,44]
def ag8:=rg [
a8p 58 .add 44 1,a82 44 58] [0,1,5,42,43,44]
def ajt:ICode:=(.seq ahc (.seq (.cond (.t 45) .skip (.exit 0)) (.seq (.block 1 (.seq ahb (.seq (.seq aha (.cond (.t 52) a01 .skip)) ag9))) ag8)))
def a6p:=a8v ajt.eq_1
def a0z:=rg [
a82 59 5,oo 60 (.call true n_dc [(.t 59)]),a82 61 5,a82 62 5,oo 63 (.slice 1 (.t 60) none (some (.t 61)) (some (.t 62))),a88 8 63] [0,1,8]
def a0y:=rg [
a82 64 8,a82 65 0,oo 66 (.idxA 1 (.t 65) (ci 0)),a80 67 66,oo 68 (.copy 1 (.t 64) (.t 67)),a88 9 68] [0,1,8,9]
def a0x:=rg [
a82 69 0,oo 70 (.slice 1 (.t 69) (some (ci 1)) none none),a8z 71 false 70,oo 72 (.mv (ci 0))] [1,8,9,70,71,72]
def ag7:=rg [
a8q 73 .lss 72 71] [1,8,9,70,71,72,73]
def ag6:=rg [
a8x 74 1 70 72,a80 75 74,a88 11 75] [1,8,9,11,70,71,72]
def ag5:=rg [
a82 76 9,a82 77 8,a82 78 9,oo 79 (.slice 1 (.t 77) (some (.t 78)) none none),a82 80 1,oo 81 (.copy 1 (.t 79) (.t 80)),a8q 82 .add 76 81,a88 9 82] [1,8,9,11,70,71,72]
def ag4:=rg [
a82 83 9,a82 84 8,a82 85 9,oo 86 (.slice 1 (.t 84) (some (.t 85)) none none),a82 87 11,oo 88 (.copy 1 (.t 86) (.t 87)),a8q 89 .add 83 88,a88 9 89] [1,8,9,70,71,72]
def ag3:=rg [
a8p 90 .add 72 1,a82 72 90] [1,8,9,70,71,72]
def ajs:ICode:=(.seq ag7 (.seq (.cond (.t 73) .skip (.exit 2)) (.seq (.block 3 (.seq ag6 (.seq ag5 ag4))) ag3)))
def a6q:=a8v ajs.eq_1
def ag2:=rg [
a82 91 8,a88 4 91] [4]
def c_ai:ICode:=(.seq r_ai_0 (.seq r_ai_1 (.cond (.t 14) (.seq r_ai_2 .ret) (.seq r_ai_3 (.cond (.t 18) (.seq r_ai_4 .ret) (.seq r_ai_5 (.seq (.seq r_ai_6 (.cond (.t 25) (.seq (.seq r_ai_7 (.cond (.t 32) r_ai_8 .skip)) r_ai_9) .skip)) (.seq (.seq a02 (.block 0 (.loop ajt))) (.seq a0z (.seq a0y (.seq (.seq a0x (.block 2 (.loop ajs))) (.seq ag2 .ret))))))))))))
def i_ai:IFunc:=⟨2,[.t 4],c_ai⟩
def a_ai:Advice:=⟨[60],zzz 24 [ag4,.ret,ag6,.ret,.ret,.ret,.ret,.ret,ag8,ag9,.ret,aha,ahb,ahc,a02,.ret,.ret,.ret,r_ai_6,r_ai_5,r_ai_4,r_ai_3,.ret,r_ai_1,r_ai_0]++[(25,[4]),(23,[1,8,9,70,71,72]),(21,[1,8,9,11,70,71,72]),(20,[1,8,9,70,71,72,73]),(19,[1,8,9,70,71,72]),(18,[0,1,8,9]),(17,[0,1,8]),(14,[0,1,5,7,42,43,44]),(9,[0,1,5]),(8,[0,1,5]),(7,[0,1,5,32]),(2,[4])],[],[],[],[]⟩
def r_bu_0:=rg [
oo 2 (.asg (.c .nilS)),oo 3 (.asg (.c .nilS))] [0]
def r_bu_1:=rg [
a82 7 0,a8z 8 false 7,oo 9 (.mkS 1 8 (.int .i64 0) (ci 0) (.t 8)),a88 4 9] [0,4]
def r_bu_2:=rg [
a82 10 0,a8z 11 false 10,oo 12 (.mv (ci 0))] [0,4,10,11,12]
def ayw:=rg [
a8q 13 .lss 12 11] [0,4,10,11,12,13]
def ayv:=rg [
a8x 14 1 10 12,a80 15 14,a88 6 15] [0,4,6,10,11,12]
def ayu:=rg [
a82 16 4,a82 17 6,a8z 18 false 17,oo 19 (.lit false 1 1 (.int .i64 0) [(0,(.t 18))]),oo 20 (.append 1 8 (.t 16) (.t 19)),a88 4 20] [0,4,10,11,12]
def ayt:=rg [
a8p 21 .add 12 1,a82 12 21] [0,4,10,11,12]
def a49:ICode:=(.seq ayw (.seq (.cond (.t 13) .skip (.exit 0)) (.seq (.block 1 (.seq ayv ayu)) ayt)))
def a6r:=a8v a49.eq_1
def r_bu_8:=rg [
a82 22 0,a8r 23 n_ai [(.t 22),(.c .nilS)],a8r 24 n_c9 [(.t 23)],a82 25 4,a88 2 24,a88 3 25] [2,3]
def c_bu:ICode:=(.seq r_bu_0 (.seq r_bu_1 (.seq (.seq r_bu_2 (.block 0 (.loop a49))) (.seq r_bu_8 .ret))))
def i_bu:IFunc:=⟨1,[.t 2,.t 3],c_bu⟩
def a_bu:Advice:=⟨[20],zzz 6 [ayt,ayu,ayv,ayw,r_bu_2,r_bu_1,r_bu_0]++[(7,[2,3])],[],[],[],[]⟩
def r_av_0:=rg [
a82 11 2,a84 12 11] [0,1,12]
def r_av_1:=rg [
a82 14 1,a8r 15 n_bu [(.t 14)],a82 13 15,a89 16 13 0,a89 17 13 1,a88 6 16,a88 7 17] [0,6,7]
def r_av_2:=rg [
a82 18 0,a82 19 6,a8r 20 n_bo [(.t 18),(ci 1),(.t 19)]] [0,7]
def r_av_3:=rg [
a82 21 0,a82 22 7,a8r 23 n_bd [(.t 21),(ci 2),(.t 22),(.c (.bool false))]] []
def r_av_4:=rg [
a82 24 1,a8r 25 n_ay [(.t 24)],oo 8 (.alloc [.nilS,.nilS]),a87 2 8 25] [0,8]
def r_av_5:=rg [
a8s 27 0 8,a80 28 27,a8r 29 n_bu [(.t 28)],a82 26 29,a89 30 26 0,a89 31 26 1,a88 9 30,a88 10 31] [0,8,9,10]
def r_av_6:=rg [
a82 32 0,a8s 33 0 8,a80 34 33,a8z 35 false 34,oo 36 (.build [(.int .i64 0),(.int .i64 0)] [(0,1,(ci 1)),(1,1,(.t 35))]),a83 37 32,a8s 38 7 37,a87 2 38 36] [0,8,9,10]
def r_av_7:=rg [
a82 39 0,a8s 40 1 8,a80 41 40,a8r 42 n_bd [(.t 39),(ci 1),(.t 41),(.c (.bool false))]] [0,9,10]
def r_av_8:=rg [
a82 43 0,a82 44 10,a8r 45 n_bd [(.t 43),(ci 2),(.t 44),(.c (.bool false))]] [0,9]
def r_av_9:=rg [
a82 46 0,a82 47 9,a8r 48 n_bo [(.t 46),(ci 3),(.t 47)]] []
def c_av:ICode:=(.seq r_av_0 (.cond (.t 12) (.seq r_av_1 (.seq r_av_2 (.seq r_av_3 .ret))) (.seq r_av_4 (.seq r_av_5 (.seq r_av_6 (.seq r_av_7 (.seq r_av_8 r_av_9)))))))
def i_av:IFunc:=⟨3,[],c_av⟩
def a_av:=zzy (zzz 9 [r_av_9,r_av_8,r_av_7,r_av_6,r_av_5,r_av_4,r_av_3,r_av_2,r_av_1,r_av_0])
def r_cg_0:=rg [
a8n 4 false] [0,1]
def r_cg_1:=rg [
a82 5 1,oo 6 (.minmax true [(.t 5),(ci 0)]),oo 7 (.minmax false [(.t 6),(ci 100)]),a88 1 7] [0,1]
def r_cg_2:=rg [
a82 8 0,a8z 9 false 8,a8p 10 .gtr 9 0,a82 11 10,a8u 12 11 true 0,og 13 11 true (.call false n_dn [(.t 12)]),og 14 11 true (.len false (.t 13)),og 15 11 true (.bin .mul (ci 100) (.t 14)),a8u 16 11 true 1,a8u 17 11 true 0,og 18 11 true (.len false (.t 17)),og 19 11 true (.bin .mul (.t 16) (.t 18)),og 20 11 true (.bin .leq (.t 15) (.t 19)),a85 21 11 20,a88 4 21] [4]
def c_cg:ICode:=(.seq r_cg_0 (.seq r_cg_1 (.seq r_cg_2 .ret)))
def i_cg:IFunc:=⟨2,[.t 4],c_cg⟩
def a_cg:=zzy (zzz 2 [r_cg_2,r_cg_1,r_cg_0])
def r_bn_0:=rg [
a8o 2 0] [0]
def r_bn_1:=rg [
a82 8 0,a8z 9 false 8,oo 10 (.minmax false [(.t 9),(ci 2)]),a88 3 10] [0,3]
def r_bn_2:=rg [
a82 11 3,a8p 12 .lss 11 2] [0,3,12]
def r_bn_3:=rg [
a82 13 3,a88 2 13] [2]
@[go_sem] def am3:Ops:=[
a82 15 0,oo 16 (.idxA 1 (.t 15) (ci 1)),a80 17 16,a82 18 0,oo 19 (.idxA 1 (.t 18) (ci 0)),a80 20 19,a8r 21 n_b9 [(.t 17),(.t 20)],a82 14 21,a89 22 14 0,a89 23 14 1,a88 4 22,a88 5 23]
def am4:List (Nat×Nat):=[(0,3),(1,3),(2,3),(0,4),(1,4),(2,4),(0,5),(1,5),(2,5),(8,9),(9,10)]
def r_bn_4:ICode:= .region am3 am4 [0,3,4,5]
@[go_sem] theorem r_bn_4_u:Gu X K s r_bn_4 am4 am3 [0,3,4,5]:=go_regionU' _ _ _ _
def r_bn_5:=rg [
a82 24 5,a84 25 24] [0,3,4,25]
def r_bn_6:=rg [
a8o 2 1] [2]
def ay3:=rg [
a82 26 3,a82 27 0,a8z 28 false 27,a8q 29 .lss 26 28] [0,3,4,29]
@[go_sem] def amy:Ops:=[
a82 31 0,a82 32 3,a8x 33 1 31 32,a80 34 33,a82 35 0,a82 36 3,a8p 37 .sub 36 1,a8x 38 1 35 37,a80 39 38,a8r 40 n_b9 [(.t 34),(.t 39)],a82 30 40,a89 41 30 0,a89 42 30 1,a88 6 41,a88 7 42]
def amz:List (Nat×Nat):=[(0,1),(0,4),(1,4),(2,4),(3,4),(0,5),(1,5),(2,5),(3,5),(4,5),(0,6),(1,6),(2,6),(3,6),(4,6),(0,7),(1,7),(2,7),(3,7),(0,8),(1,8),(2,8),(3,8),(11,12),(12,13)]
def ay2:ICode:= .region amy amz [0,3,4,6,7]
@[go_sem] theorem r_bn_8_u:Gu X K s ay2 amz amy [0,3,4,6,7]:=go_regionU' _ _ _ _
def ay1:=rg [
a82 43 7,a84 44 43,a82 45 44,a8u 46 45 false 6,a8u 47 45 false 4,og 48 45 false (.bin .neq (.t 46) (.t 47)),a86 49 45 48] [0,3,4,49]
def afx:=rg [
a82 50 3,a8p 51 .add 50 1,a88 3 51] [0,3,4]
def ajk:ICode:=(.seq (.seq ay3 (.cond (.t 29) .skip (.exit 0))) (.block 1 (.seq ay2 (.seq (.seq ay1 (.cond (.t 49) (.exit 0) .skip)) afx))))
def a6s:=a8v ajk.eq_1
def afw:=rg [
a82 52 3,a88 2 52] [2]
def c_bn:ICode:=(.seq r_bn_0 (.seq r_bn_1 (.seq r_bn_2 (.cond (.t 12) (.seq r_bn_3 .ret) (.seq r_bn_4 (.seq r_bn_5 (.cond (.t 25) (.seq r_bn_6 .ret) (.seq (.block 0 (.loop ajk)) (.seq afw .ret)))))))))
def i_bn:IFunc:=⟨1,[.t 2],c_bn⟩
def a_bn:=zzy (zzz 10 [afx,ay1,.ret,ay3,r_bn_6,r_bn_5,.ret,r_bn_3,r_bn_2,r_bn_1,r_bn_0]++[(11,[2]),(8,[0,3,4,6,7]),(4,[0,3,4,5])])
def r_b4_0:=rg [
a82 6 0,a80 7 1,a8q 8 .gtr 6 7] [0,1,2,3,4,8]
@[go_sem] def ao8:Ops:=[
a80 9 2,a80 10 3,a80 11 1,a82 12 0,oo 13 (.slice 1 (.t 10) (some (.t 11)) (some (.t 12)) none),a80 14 4,a8r 15 n_az [(.t 9),(.t 13),(.t 14)],a87 1 2 15]
def ao9:List (Nat×Nat):=[(0,1),(0,2),(1,2),(0,3),(1,3),(2,3),(0,4),(0,5),(1,5),(2,5),(3,5),(4,5)]
def r_b4_1:ICode:= .region ao8 ao9 []
@[go_sem] theorem r_b4_1_u:Gu X K s r_b4_1 ao9 ao8 []:=go_regionU' _ _ _ _
def c_b4:ICode:=(.seq r_b4_0 (.cond (.t 8) r_b4_1 .skip))
def i_b4:IFunc:=⟨5,[],c_b4⟩
def a_b4:=zzy (zzz 0 [r_b4_0]++[(1,[])])
def r_ak_0:=rg [
oo 2 (.box 1 (.t 0)),oo 3 (.box 1 (.t 1)),oo 4 (.asg (.c .nilS))] [2,3]
def r_b4:=rg [
oo 5 (.alloc [.nilS])] [2,3,5]
def r_ak_2:=rg [
oo 6 (.alloc [(.int .i64 0)]),ow (.store 1 (.t 6) (ci 0))] [2,3,5,6]
def r_ak_3:=rg [
oo 10 (.mkF n_b4 [] [(.t 6),(.t 5),(.t 2),(.t 3)]),a88 7 10] [2,3,5,6,7]
def r_ak_4:=rg [
a8o 8 0] [2,3,5,6,7,8]
def a0q:=rg [
a82 11 8,a80 12 2,a8z 13 false 12,a8q 14 .lss 11 13] [2,3,5,6,7,8,14]
def a0p:=rg [
a80 15 2,a82 16 8,oo 17 (.slice 1 (.t 15) (some (.t 16)) none none),a8r 18 n_bn [(.t 17)],a88 9 18] [2,3,5,6,7,8,9]
def a0o:=rg [
a82 19 9,a8p 20 .lss 19 8] [2,3,5,6,7,8,9,20]
def a0n:=rg [
a82 21 8,a8p 22 .add 21 1,a88 8 22] [2,3,5,6,7,8]
def a0m:=rg [
a82 23 7,a82 24 8,oo 25 (.callv false (.t 23) [(.t 24)])] [2,3,5,6,7,8,9]
@[go_sem] def abe:Ops:=[
a80 26 5,a80 27 2,a82 28 8,a82 29 8,a82 30 9,a8q 31 .add 29 30,oo 32 (.slice 1 (.t 27) (some (.t 28)) (some (.t 31)) none),a80 33 3,a8r 34 n_az [(.t 26),(.t 32),(.t 33)],a87 1 5 34]
def abf:List (Nat×Nat):=[(0,1),(0,2),(1,2),(0,3),(1,3),(2,3),(0,4),(1,4),(2,4),(3,4),(0,5),(1,5),(2,5),(0,6),(0,7),(1,7),(2,7),(3,7),(4,7),(5,7),(6,7)]
def ag1:ICode:= .region abe abf [2,3,5,6,7,8,9]
@[go_sem] theorem r_ak_10_u:Gu X K s ag1 abf abe [2,3,5,6,7,8,9]:=go_regionU' _ _ _ _
def ag0:=rg [
a82 35 8,a82 36 9,a8q 37 .add 35 36,a88 8 37] [2,3,5,6,7,8]
def agz:=rg [
a82 38 8,a87 1 6 38] [2,3,5,6,7,8]
def ajr:ICode:=(.seq (.seq a0q (.cond (.t 14) .skip (.exit 0))) (.block 1 (.seq a0p (.seq (.seq a0o (.cond (.t 20) (.seq a0n (.exit 1)) .skip)) (.seq a0m (.seq ag1 (.seq ag0 agz)))))))
def a6t:=a8v ajr.eq_1
def agy:=rg [
a82 39 7,a80 40 2,a8z 41 false 40,oo 42 (.callv false (.t 39) [(.t 41)])] [5]
def agx:=rg [
a80 43 5,a88 4 43] [4]
def c_ak:ICode:=(.seq r_ak_0 (.seq r_b4 (.seq r_ak_2 (.seq r_ak_3 (.seq (.seq r_ak_4 (.block 0 (.loop ajr))) (.seq agy (.seq agx .ret)))))))
def i_ak:IFunc:=⟨2,[.t 4],c_ak⟩
def a_ak:=zzy (zzz 12 [agz,ag0,.ret,a0m,a0n,a0o,a0p,a0q,r_ak_4,r_ak_3,r_ak_2,.ret,r_ak_0]++[(14,[4]),(13,[5]),(10,[2,3,5,6,7,8,9]),(1,[2,3,5])])
def r_ae_0:=rg [
oo 6 (.asg (.c .nilS)),a8o 7 0] [0,1,2]
def r_ae_1:=rg [
a82 21 1,a8r 22 n_ap [(.t 21)],a82 20 22,a89 23 20 0,a89 24 20 1,a89 25 20 2,a88 8 23,a88 9 24,a88 10 25] [0,1,2,8,9,10]
def r_ae_2:=rg [
a82 26 1,a8z 27 false 26,a8p 28 .lss 27 2,a82 29 28,a8u 30 29 false 1,og 31 29 false (.len false (.t 30)),og 32 29 false (.bin .gtr (.t 31) (ci 512)),a86 33 29 32,a82 34 33,a8u 35 34 false 1,a8u 36 34 false 2,og 37 34 false (.call false n_bt [(.t 35),(.t 36)]),a86 38 34 37,a82 39 38,a8u 40 39 false 10,og 41 39 false (.un .not (.t 40)),a86 42 39 41] [0,1,2,8,9,42]
def r_ae_3:=rg [
oo 6 (.asg (.c .nilS)),a8o 7 1] [6,7]
def r_ae_4:=rg [
oo 11 (.asg (.c .nilS))] [0,1,2,8,9,11]
def r_ae_5:=rg [
a8o 12 2] [0,1,2,8,9,11,12]
def r_ae_6:=rg [
a8o 13 2] [0,1,2,8,9,11,12,13]
def a2e:=rg [
a82 43 13,a82 44 1,a8z 45 false 44,a8q 46 .lss 43 45] [0,1,2,8,9,11,12,13,46]
@[go_sem] def ata:Ops:=[
a82 50 1,a82 51 13,a8x 52 1 50 51,a80 53 52,a82 54 1,a82 55 13,a8p 56 .sub 55 1,a8x 57 1 54 56,a80 58 57,a8r 59 n_b9 [(.t 53),(.t 58)],a82 49 59,a89 60 49 0,a89 61 49 1,a88 14 60,a88 15 61]
def atb:List (Nat×Nat):=[(0,1),(0,4),(1,4),(2,4),(3,4),(0,5),(1,5),(2,5),(3,5),(4,5),(0,6),(1,6),(2,6),(3,6),(4,6),(0,7),(1,7),(2,7),(3,7),(0,8),(1,8),(2,8),(3,8),(11,12),(12,13)]
def a2d:ICode:= .region ata atb [0,1,2,8,9,11,12,13,14]
@[go_sem] theorem r_ae_8_u:Gu X K s a2d atb ata [0,1,2,8,9,11,12,13,14]:=go_regionU' _ _ _ _
def a2c:=rg [
a82 62 14,oo 63 (.cvInt .u64 (.t 62)),a88 16 63] [0,1,2,8,9,11,12,13,14,16]
def ahr:=rg [
a82 64 14,a8p 65 .lss 64 0] [0,1,2,8,9,11,12,13,16,65]
def ahq:=rg [
a82 66 16,oo 67 (.un .neg (.t 66)),a88 16 67] [0,1,2,8,9,11,12,13,16]
def ahp:=rg [
a82 68 11,a82 69 16,oo 70 (.lit false 1 1 (.int .u64 0) [(0,(.t 69))]),oo 71 (.append 1 8 (.t 68) (.t 70)),a88 11 71] [0,1,2,8,9,11,12,13,16]
def aho:=rg [
a82 72 12,a82 73 16,a8r 74 n_cx [(.t 73)],oo 75 (.minmax true [(.t 72),(.t 74)]),a88 12 75] [0,1,2,8,9,11,12,13]
def ahn:=rg [
a82 47 13,a8p 48 .add 47 1,a88 13 48] [0,1,2,8,9,11,12,13]
def aju:ICode:=(.seq (.seq a2e (.cond (.t 46) .skip (.exit 0))) (.seq (.block 1 (.seq a2d (.seq a2c (.seq (.seq ahr (.cond (.t 65) ahq .skip)) (.seq ahp aho))))) ahn))
def a6u:=a8v aju.eq_1
def ahm:=rg [
a8o 17 0,a8o 18 0] [0,1,2,8,9,11,12,17,18]
def ahl:=rg [
a82 76 9,a84 77 76] [0,1,2,8,9,11,12,17,18,77]
def ahk:=rg [
a82 78 12,a8r 79 n_dw [(.t 78)],a88 17 79] [0,1,2,8,9,11,17]
def ahj:=rg [
a82 81 17,a8r 82 n_dt [(.t 81)],a82 80 82,a89 83 80 0,a89 84 80 1,a88 18 83] [0,1,2,8,9,11,17,18]
@[go_sem] def acb:Ops:=[
a82 85 0,a82 86 18,a82 87 1,a8z 88 false 87,a8r 89 n_cw [(.t 85),(ci 3),(.t 86),(.t 88)],a82 90 1,oo 91 (.idxA 1 (.t 90) (ci 0)),a80 92 91,a82 93 2,a8r 94 n_ce [(.t 92),(.t 93)],a8r 95 n_bq [(.t 89),(.t 94)],a88 19 95]
def acd:List (Nat×Nat):=[(0,1),(0,2),(1,2),(0,3),(1,3),(0,5),(1,5),(2,5),(3,5),(4,5),(0,6),(1,6),(2,6),(3,6),(4,6),(0,7),(1,7),(2,7),(3,7),(4,7),(0,8),(1,8),(2,8),(3,8),(4,8),(5,8),(6,8),(7,8)]
def ahi:ICode:= .region acb acd [8,9,11,17,19]
@[go_sem] theorem r_ae_20_u:Gu X K s ahi acd acb [8,9,11,17,19]:=go_regionU' _ _ _ _
def ahh:=rg [
a82 96 19,a82 97 8,a8r 98 n_cz [(.t 97)],a8r 99 n_bq [(.t 96),(.t 98)],a88 19 99] [9,11,17,19]
def ahg:=rg [
a82 100 9] [11,17,19,100]
def ahf:=rg [
a82 101 19,a88 6 101,a8o 7 0] [6,7]
def ahe:=rg [
a82 102 19,a82 103 11,a82 104 17,a8r 105 n_ax [(.t 102),(.t 103),(.t 104)],a88 6 105,a8o 7 0] [6,7]
def c_ae:ICode:=(.seq r_ae_0 (.seq r_ae_1 (.seq r_ae_2 (.cond (.t 42) (.seq r_ae_3 .ret) (.seq r_ae_4 (.seq r_ae_5 (.seq (.seq r_ae_6 (.block 0 (.loop aju))) (.seq ahm (.seq (.seq ahl (.cond (.t 77) (.seq ahk ahj) .skip)) (.seq ahi (.seq ahh (.seq ahg (.cond (.t 100) (.seq ahf .ret) (.seq (.seq (.demote [11]) ahe) .ret))))))))))))))
def i_ae:IFunc:=⟨3,[.t 6,.t 7],c_ae⟩
def a_ae:Advice:=⟨[71],a8y [(23,ahf),(14,ahn),(12,ahp),(7,a2e),(6,r_ae_6),(5,r_ae_5),(4,r_ae_4),(3,r_ae_3),(2,r_ae_2),(1,r_ae_1),(0,r_ae_0)]++[(22,[6,7]),(21,[11,17,19,100]),(20,[9,11,17,19]),(19,[8,9,11,17,19]),(18,[0,1,2,8,9,11,17,18]),(17,[0,1,2,8,9,11,17]),(16,[0,1,2,8,9,11,12,17,18,77]),(15,[0,1,2,8,9,11,12,17,18]),(8,[0,1,2,8,9,11,12,13]),(13,[0,1,2,8,9,11,12,13,16]),(11,[0,1,2,8,9,11,12,13,16,65]),(10,[0,1,2,8,9,11,12,13,14,16]),(9,[0,1,2,8,9,11,12,13,14])],[(23,[11])],[],[],[]⟩
def r_am_0:=rg [
oo 6 (.asg (.c .nilS))] [0,1,2]
def r_am_1:=rg [
a82 8 0,oo 9 (.call true n_bc [(.t 8)]),a88 7 9] [1,2,7]
def r_am_2:=rg [
a82 10 2] [1,7,10]
def r_am_3:=rg [
a8p 12 .eql 10 8,a88 11 12] [1,7,10,11]
def r_am_4:=rg [
a8p 14 .eql 10 7,a88 13 14] [1,7,10,13]
def r_am_5:=rg [
a8p 16 .eql 10 6,a88 15 16] [1,7,10,15]
def r_am_6:=rg [
a8p 18 .eql 10 5,a88 17 18] [1,7,10,17]
def r_am_7:=rg [
a8p 20 .eql 10 4,a88 19 20] [1,7,10,19]
def r_am_8:=rg [
a8p 22 .eql 10 3,a88 21 22] [1,7,10,21]
def r_am_9:=rg [
a8p 24 .eql 10 2,a88 23 24] [1,7,10,23]
def a0l:=rg [
a8p 26 .eql 10 1,a88 25 26] [1,7,25]
def a0k:=rg [
a82 27 7,a82 28 1,oo 29 (.bin .shr (.t 28) (.c (.int .u64 56))),oo 30 (.cvInt .u8 (.t 29)),oo 31 (.lit false 1 1 (.int .u8 0) [(0,(.t 30))]),oo 32 (.append 1 1 (.t 27) (.t 31)),a88 7 32] [1,7]
def a0j:=rg [
a82 33 7,a82 34 1,oo 35 (.bin .shr (.t 34) (.c (.int .u64 48))),oo 36 (.cvInt .u8 (.t 35)),oo 37 (.lit false 1 1 (.int .u8 0) [(0,(.t 36))]),oo 38 (.append 1 1 (.t 33) (.t 37)),a88 7 38] [1,7]
def a0i:=rg [
a82 39 7,a82 40 1,oo 41 (.bin .shr (.t 40) (.c (.int .u64 40))),oo 42 (.cvInt .u8 (.t 41)),oo 43 (.lit false 1 1 (.int .u8 0) [(0,(.t 42))]),oo 44 (.append 1 1 (.t 39) (.t 43)),a88 7 44] [1,7]
def a0h:=rg [
a82 45 7,a82 46 1,oo 47 (.bin .shr (.t 46) (.c (.int .u64 32))),oo 48 (.cvInt .u8 (.t 47)),oo 49 (.lit false 1 1 (.int .u8 0) [(0,(.t 48))]),oo 50 (.append 1 1 (.t 45) (.t 49)),a88 7 50] [1,7]
def a0g:=rg [
a82 51 7,a82 52 1,oo 53 (.bin .shr (.t 52) (.c (.int .u64 24))),oo 54 (.cvInt .u8 (.t 53)),oo 55 (.lit false 1 1 (.int .u8 0) [(0,(.t 54))]),oo 56 (.append 1 1 (.t 51) (.t 55)),a88 7 56] [1,7]
def a0f:=rg [
a82 57 7,a82 58 1,oo 59 (.bin .shr (.t 58) (.c (.int .u64 16))),oo 60 (.cvInt .u8 (.t 59)),oo 61 (.lit false 1 1 (.int .u8 0) [(0,(.t 60))]),oo 62 (.append 1 1 (.t 57) (.t 61)),a88 7 62] [1,7]
def a0e:=rg [
a82 63 7,a82 64 1,oo 65 (.bin .shr (.t 64) (.c (.int .u64 8))),oo 66 (.cvInt .u8 (.t 65)),oo 67 (.lit false 1 1 (.int .u8 0) [(0,(.t 66))]),oo 68 (.append 1 1 (.t 63) (.t 67)),a88 7 68] [1,7]
def a0d:=rg [
a82 69 7,a82 70 1,oo 71 (.cvInt .u8 (.t 70)),oo 72 (.lit false 1 1 (.int .u8 0) [(0,(.t 71))]),oo 73 (.append 1 1 (.t 69) (.t 72)),a88 7 73] [7]
def a0c:=rg [
a82 74 7,a8r 75 n_c9 [(.t 74)],a88 6 75] [6]
def c_am:ICode:=(.seq r_am_0 (.seq r_am_1 (.seq (.seq r_am_2 (.block 0 (.seq (.block 8 (.seq (.block 7 (.seq (.block 6 (.seq (.block 5 (.seq (.block 4 (.seq (.block 3 (.seq (.block 2 (.seq (.block 1 (.seq (.seq (.seq r_am_3 (.cond (.t 11) (.exit 1) .skip)) (.seq (.seq r_am_4 (.cond (.t 13) (.exit 2) .skip)) (.seq (.seq r_am_5 (.cond (.t 15) (.exit 3) .skip)) (.seq (.seq r_am_6 (.cond (.t 17) (.exit 4) .skip)) (.seq (.seq r_am_7 (.cond (.t 19) (.exit 5) .skip)) (.seq (.seq r_am_8 (.cond (.t 21) (.exit 6) .skip)) (.seq (.seq r_am_9 (.cond (.t 23) (.exit 7) .skip)) (.seq a0l (.cond (.t 25) (.exit 8) .skip))))))))) (.exit 0))) a0k)) a0j)) a0i)) a0h)) a0g)) a0f)) a0e)) (.seq a0d (.exit 0))))) (.seq a0c .ret))))
def i_am:IFunc:=⟨3,[.t 6],c_am⟩
def a_am:Advice:=⟨[9,32,38,44,50,56,62,68,73],zzz 19 [a0c,a0d,a0e,a0f,a0g,a0h,a0i,a0j,a0k,a0l,r_am_9,r_am_8,r_am_7,r_am_6,r_am_5,r_am_4,r_am_3,r_am_2,r_am_1,r_am_0],[],[],[],[]⟩
def r_br_0:=rg [
oo 8 (.asg (.c .nilS)),a8o 9 0] [0,1,2,3]
def r_br_1:=rg [
a82 13 2,a8p 14 .lss 13 3,a82 15 14,a8u 16 15 false 2,og 17 15 false (.bin .gtr (.t 16) (ci 10)),a86 18 15 17,a82 19 18,a8u 20 19 false 1,og 21 19 false (.lit false 1 1 (.int .i64 0) [(0,(.t 20))]),a8u 22 19 false 3,og 23 19 false (.call false n_bt [(.t 21),(.t 22)]),a86 24 19 23] [0,1,2,3,24]
@[go_sem] def r_br_2_o:Ops:=[
oo 8 (.asg (.c .nilS)),a8o 9 1]
def r_br_2:=rg r_br_2_o [8,9]
def r_br_3:=rg [
a82 25 1,a82 26 3,a8r 27 n_ce [(.t 25),(.t 26)],a88 10 27] [0,2,10]
def r_br_4:=rg [
a82 28 10,a8r 29 n_cx [(.t 28)],a8p 30 .add 29 7,a8p 31 .quo 30 8,oo 32 (.minmax true [(.t 31),(ci 1)]),a88 11 32] [0,2,10,11]
def r_br_5:=rg [
a82 33 0,oo 34 (.call true n_bc [(.t 33)]),a82 35 11,a8p 36 .sub 35 1,oo 37 (.bin .shl (.t 36) (.c (.int .u64 3))),oo 38 (.bin .or (ci 0) (.t 37)),a82 39 2,a8p 40 .sub 39 3,a8q 41 .or 38 40,oo 42 (.cvInt .u8 (.t 41)),oo 43 (.lit false 1 1 (.int .u8 0) [(0,(.t 42))]),oo 44 (.append 1 1 (.t 34) (.t 43)),a88 12 44] [10,11,12]
def r_br_6:=rg [
a82 45 12,a82 46 10,a82 47 11,a8r 48 n_am [(.t 45),(.t 46),(.t 47)],a88 8 48,a8o 9 0] [8,9]
def c_br:ICode:=(.seq r_br_0 (.seq r_br_1 (.cond (.t 24) (.seq r_br_2 .ret) (.seq r_br_3 (.seq r_br_4 (.seq r_br_5 (.seq r_br_6 .ret)))))))
def i_br:IFunc:=⟨4,[.t 8,.t 9],c_br⟩
def a_br:Advice:=⟨[34],zzz 6 [r_br_6,r_br_5,r_br_4,r_br_3,.ret,r_br_1,r_br_0]++[(2,[8,9])],[],[],[],[]⟩
def r_ap_0:=rg [
a8o 2 0,a8n 3 false,a8n 4 false] [0,2]
def r_ap_1:=rg [
a8n 3 true,a8n 4 true] [0,2,3,4]
def r_ap_2:=rg [
a8o 5 1] [0,2,3,4,5]
def a0a:=rg [
a82 8 5,a82 9 0,a8z 10 false 9,a8q 11 .lss 8 10] [0,2,3,4,5,11]
@[go_sem] def aq9:Ops:=[
a82 15 0,a82 16 5,a8x 17 1 15 16,a80 18 17,a82 19 0,a82 20 5,a8p 21 .sub 20 1,a8x 22 1 19 21,a80 23 22,a8r 24 n_b9 [(.t 18),(.t 23)],a82 14 24,a89 25 14 0,a89 26 14 1,a88 6 25,a88 7 26]
def ara:List (Nat×Nat):=[(0,1),(0,4),(1,4),(2,4),(3,4),(0,5),(1,5),(2,5),(3,5),(4,5),(0,6),(1,6),(2,6),(3,6),(4,6),(0,7),(1,7),(2,7),(3,7),(0,8),(1,8),(2,8),(3,8),(11,12),(12,13)]
def az9:ICode:= .region aq9 ara [0,2,3,4,5,6,7]
@[go_sem] theorem r_ap_4_u:Gu X K s az9 ara aq9 [0,2,3,4,5,6,7]:=go_regionU' _ _ _ _
def az8:=rg [
a82 28 7,a84 29 28,a88 27 29] [0,2,3,4,5,6,27]
def az7:=rg [
a82 30 5,a8p 31 .eql 30 1] [0,2,5,31]
def az6:=rg [
a8o 2 0] [0,2,5]
def az5:=rg [
a8n 3 false,a8n 4 false] [0,2,3,4,5]
def az4:=rg [
a82 33 5,a8p 34 .eql 33 1,a88 32 34] [0,2,3,4,5,6,32]
def agq:=rg [
a82 35 6,a88 2 35] [0,2,3,4,5,6]
def vi:=rg [
a82 36 3,a82 37 36,a8u 38 37 true 6,a8u 39 37 true 2,og 40 37 true (.bin .eql (.t 38) (.t 39)),a85 41 37 40,a88 3 41] [0,2,3,4,5,6]
def p9:=rg [
a82 42 4,a82 43 42,a8u 44 43 true 6,og 45 43 true (.bin .neq (.t 44) (ci (-9223372036854775808))),a85 46 43 45,a82 47 46,a8u 48 47 true 2,og 49 47 true (.bin .eql (.t 48) (ci 0)),a8u 50 47 true 49,a8u 51 50 true 6,og 52 50 true (.bin .eql (.t 51) (ci 0)),og 53 47 true (.pick (.t 50) (.t 52) (.c (.bool false))),a8u 54 47 true 53,a8u 55 54 false 2,og 56 54 false (.bin .gtr (.t 55) (ci 0)),a8u 57 54 false 56,a8u 58 57 true 6,og 59 57 true (.bin .geq (.t 58) (ci 0)),og 60 54 false (.pick (.t 57) (.t 59) (.c (.bool false))),og 61 47 true (.pick (.t 54) (.c (.bool true)) (.t 60)),a8u 62 47 true 61,a8u 63 62 false 2,og 64 62 false (.bin .lss (.t 63) (ci 0)),a8u 65 62 false 64,a8u 66 65 true 6,og 67 65 true (.bin .leq (.t 66) (ci 0)),og 68 62 false (.pick (.t 65) (.t 67) (.c (.bool false))),og 69 47 true (.pick (.t 62) (.c (.bool true)) (.t 68)),a85 70 47 69,a88 4 70] [0,2,3,4,5]
def p8:=rg [
a82 12 5,a8p 13 .add 12 1,a88 5 13] [0,2,3,4,5]
def rh:ICode:=(.seq (.seq a0a (.cond (.t 11) .skip (.exit 0))) (.seq (.block 1 (.seq az9 (.seq (.block 2 (.seq az8 (.cond (.t 27) (.seq (.seq az7 (.cond (.t 31) az6 .skip)) (.seq az5 (.exit 1))) (.seq az4 (.cond (.t 32) agq .skip))))) (.seq vi p9)))) p8))
def a6v:=a8v rh.eq_1
def p7:=rg [
a82 71 2,a82 72 3,a82 73 4,a88 2 71,a88 3 72,a88 4 73] [2,3,4]
def c_ap:ICode:=(.seq r_ap_0 (.seq r_ap_1 (.seq (.seq r_ap_2 (.block 0 (.loop rh))) (.seq p7 .ret))))
def i_ap:IFunc:=⟨1,[.t 2,.t 3,.t 4],c_ap⟩
def a_ap:=zzy (a8y [(13,p8),(11,vi),(3,a0a),(2,r_ap_2),(1,r_ap_1),(0,r_ap_0)]++[(14,[2,3,4]),(4,[0,2,3,4,5]),(12,[0,2,3,4,5,6]),(9,[0,2,3,4,5]),(8,[0,2,5]),(7,[0,2,5,31]),(10,[0,2,3,4,5,6,32]),(6,[0,2,3,4,5,6,27]),(5,[0,2,3,4,5,6,7])])
def r_ax_0:=rg [
oo 6 (.asg (.c .nilS))] [0,1,2]
def r_ax_1:=rg [
a82 14 0,oo 15 (.call true n_bc [(.t 14)]),a88 7 15] [1,2,7]
def r_ax_2:=rg [
a82 16 2,a8p 17 .lss 16 0,a82 18 17,a8u 19 18 false 2,og 20 18 false (.bin .gtr (.t 19) (ci 64)),a86 21 18 20] [1,2,7,21]
@[go_sem] def r_ax_3_o:Ops:=[
a82 22 7,a88 6 22]
def r_ax_3:=rg r_ax_3_o [6]
def r_ax_4:=rg [
a8o 8 0] [1,2,7,8]
def r_ax_5:=rg [
a82 23 1,a8z 24 false 23,oo 25 (.mv (ci 0))] [2,7,8,23,24,25]
def azq:=rg [
a8q 26 .lss 25 24] [2,7,8,23,24,25,26]
def azp:=rg [
a8x 27 1 23 25,a80 28 27,a88 10 28] [2,7,8,10,23,24,25]
def azo:=rg [
a82 29 2,a88 11 29] [2,7,8,10,11,23,24,25]
def azn:=rg [
a82 30 11,a8p 31 .gtr 30 0] [2,7,8,10,11,23,24,25,31]
def agd:=rg [
a82 32 8,a8p 33 .eql 32 0] [2,7,8,10,11,23,24,25,33]
def agc:=rg [
a82 34 7,oo 35 (.lit false 1 1 (.int .u8 0) [(0,(.c (.int .u8 0)))]),oo 36 (.append 1 1 (.t 34) (.t 35)),a88 7 36,a8o 8 8] [2,7,8,10,11,23,24,25]
def vf:=rg [
a82 37 11,a82 38 8,oo 39 (.minmax false [(.t 37),(.t 38)]),a88 12 39] [2,7,8,10,11,12,23,24,25]
@[go_sem] def zy:Ops:=[
a82 40 10,a82 41 11,a82 42 12,a8q 43 .sub 41 42,a8q 44 .shr 40 43,a82 45 12,oo 46 (.bin .shl (.c (.int .u64 1)) (.t 45)),oo 47 (.bin .sub (.t 46) (.c (.int .u64 1))),a8q 48 .and 44 47,oo 49 (.cvInt .u8 (.t 48)),a88 13 49]
def z7:List (Nat×Nat):=[(0,1),(0,2),(1,2),(0,3),(0,5),(1,5),(2,5),(3,5),(4,5),(0,6),(1,6),(2,6),(3,6),(4,6),(0,7),(1,7),(2,7),(3,7),(4,7)]
def vd:ICode:= .region zy z7 [2,7,8,10,11,12,13,23,24,25]
@[go_sem] theorem r_ax_13_u:Gu X K s vd z7 zy [2,7,8,10,11,12,13,23,24,25]:=go_regionU' _ _ _ _
@[go_sem] def zw:Ops:=[
a82 50 7,a82 51 7,a8z 52 false 51,a8p 53 .sub 52 1,a8x 54 1 50 53,a80 55 54,a82 56 13,a82 57 8,a82 58 12,a8q 59 .sub 57 58,a8q 60 .shl 56 59,a8q 61 .or 55 60,a8x 62 1 50 53,a87 1 62 61]
def zx:List (Nat×Nat):=[(0,1),(0,2),(0,3),(0,6),(1,6),(2,6),(3,6),(4,6),(5,6),(0,7),(1,7),(2,7),(3,7),(4,7),(5,7),(6,7),(0,8),(1,8),(2,8),(3,8),(4,8),(5,8),(6,8),(7,8),(0,9),(1,9),(2,9),(3,9),(4,9),(5,9),(6,9),(0,10),(1,10),(2,10),(3,10),(4,10),(5,10)]
def vc:ICode:= .region zw zx [2,7,8,10,11,12,23,24,25]
@[go_sem] theorem r_ax_14_u:Gu X K s vc zx zw [2,7,8,10,11,12,23,24,25]:=go_regionU' _ _ _ _
def u9:=rg [
a82 63 11,a82 64 12,a8q 65 .sub 63 64,a82 66 8,a82 67 12,a8q 68 .sub 66 67,a88 11 65,a88 8 68] [2,7,8,10,11,23,24,25]
def nj:ICode:=(.seq (.seq azn (.cond (.t 31) .skip (.exit 2))) (.block 3 (.seq (.seq agd (.cond (.t 33) agc .skip)) (.seq vf (.seq vd (.seq vc u9))))))
def a6w:=a8v nj.eq_1
def u7:=rg [
a8p 69 .add 25 1,a82 25 69] [2,7,8,23,24,25]
def xa:ICode:=(.seq azq (.seq (.cond (.t 26) .skip (.exit 0)) (.seq (.block 1 (.seq azp (.seq azo (.block 2 (.loop nj))))) u7)))
def a6x:=a8v xa.eq_1
def u6:=rg [
a82 70 7,a8r 71 n_c9 [(.t 70)],a88 6 71] [6]
def c_ax:ICode:=(.seq r_ax_0 (.seq r_ax_1 (.seq r_ax_2 (.cond (.t 21) (.seq r_ax_3 .ret) (.seq r_ax_4 (.seq (.seq r_ax_5 (.block 0 (.loop xa))) (.seq u6 .ret)))))))
def i_ax:IFunc:=⟨3,[.t 6],c_ax⟩
def a_ax:Advice:=⟨[15,36],zzz 15 [u9,.ret,.ret,vf,agc,agd,azn,azo,azp,azq,r_ax_5,r_ax_4,.ret,r_ax_2,r_ax_1,r_ax_0]++[(17,[6]),(16,[2,7,8,23,24,25]),(14,[2,7,8,10,11,12,23,24,25]),(13,[2,7,8,10,11,12,13,23,24,25]),(3,[6])],[],[],[],[]⟩
def r_cw_0:=rg [
oo 8 (.asg (.c .nilS))] [0,1,2,3]
def r_cw_1:=rg [
a82 9 0,oo 10 (.call true n_bc [(.t 9)]),a82 11 1,oo 12 (.bin .shl (.t 11) (.c (.int .u64 6))),a82 13 2,oo 14 (.bin .shl (.t 13) (.c (.int .u64 1))),a8q 15 .or 12 14,a82 16 3,a8p 17 .sub 16 1,oo 18 (.bin .shr (.t 17) (.c (.int .u64 8))),a8q 19 .or 15 18,oo 20 (.cvInt .u8 (.t 19)),a82 21 3,a8p 22 .sub 21 1,oo 23 (.cvInt .u8 (.t 22)),oo 24 (.lit false 1 2 (.int .u8 0) [(0,(.t 20)),(1,(.t 23))]),oo 25 (.append 1 1 (.t 10) (.t 24)),a88 8 25] [8]
def c_cw:ICode:=(.seq r_cw_0 (.seq r_cw_1 .ret))
def i_cw:IFunc:=⟨4,[.t 8],c_cw⟩
def a_cw:Advice:=⟨[10],zzz 1 [r_cw_1,r_cw_0],[],[],[],[]⟩
def r_bm_0:=rg [
a8o 2 0] [0,2]
def r_bm_1:=rg [
a82 3 0,oo 4 (.bin .geq (.t 3) (.c (.int .u64 4294967296)))] [0,2,4]
def r_bm_2:=rg [
a82 5 0,oo 6 (.bin .shr (.t 5) (.c (.int .u64 32))),a88 0 6] [0]
def r_bm_3:=rg [
a8o 2 32] [0,2]
def r_bm_4:=rg [
a82 7 0,oo 8 (.bin .geq (.t 7) (.c (.int .u64 65536)))] [0,2,8]
def r_bm_5:=rg [
a82 9 0,oo 10 (.bin .shr (.t 9) (.c (.int .u64 16))),a88 0 10] [0,2]
def r_bm_6:=rg [
a82 11 2,a8p 12 .add 11 16,a88 2 12] [0,2]
def r_bm_7:=rg [
a82 13 0,oo 14 (.bin .geq (.t 13) (.c (.int .u64 256)))] [0,2,14]
def r_bm_8:=rg [
a82 15 0,oo 16 (.bin .shr (.t 15) (.c (.int .u64 8))),a88 0 16] [0,2]
def r_bm_9:=rg [
a82 17 2,a8p 18 .add 17 8,a88 2 18] [0,2]
@[go_sem] def pz:Ops:=[
a82 19 2,a82 20 0,oo 21 (.cvInt .u8 (.t 20)),oo 22 (.idxS (.c (.str [0,1,2,2,3,3,3,3,4,4,4,4,4,4,4,4,5,5,5,5,5,5,5,5,5,5,5,5,5,5,5,5,6,6,6,6,6,6,6,6,6,6,6,6,6,6,6,6,6,6,6,6,6,6,6,6,6,6,6,6,6,6,6,6,7,7,7,7,7,7,7,7,7,7,7,7,7,7,7,7,7,7,7,7,7,7,7,7,7,7,7,7,7,7,7,7,7,7,7,7,7,7,7,7,7,7,7,7,7,7,7,7,7,7,7,7,7,7,7,7,7,7,7,7,7,7,7,7,8,8,8,8,8,8,8,8,8,8,8,8,8,8,8,8,8,8,8,8,8,8,8,8,8,8,8,8,8,8,8,8,8,8,8,8,8,8,8,8,8,8,8,8,8,8,8,8,8,8,8,8,8,8,8,8,8,8,8,8,8,8,8,8,8,8,8,8,8,8,8,8,8,8,8,8,8,8,8,8,8,8,8,8,8,8,8,8,8,8,8,8,8,8,8,8,8,8,8,8,8,8,8,8,8,8,8,8,8,8,8,8,8,8,8,8,8,8,8,8,8,8,8,8,8,8,8,8])) (.t 21)),oo 23 (.cvInt .i64 (.t 22)),a8q 24 .add 19 23,a88 2 24]
def uz:=rg pz [2]
@[go_sem] theorem r_bm_10_u:Gr X K s uz pz [2]:=go_region _ _
def c_bm:ICode:=(.seq r_bm_0 (.seq (.seq r_bm_1 (.cond (.t 4) (.seq r_bm_2 r_bm_3) .skip)) (.seq (.seq r_bm_4 (.cond (.t 8) (.seq r_bm_5 r_bm_6) .skip)) (.seq (.seq r_bm_7 (.cond (.t 14) (.seq r_bm_8 r_bm_9) .skip)) (.seq uz .ret)))))
def i_bm:IFunc:=⟨1,[.t 2],c_bm⟩
def a_bm:=zzy (zzz 9 [r_bm_9,r_bm_8,r_bm_7,r_bm_6,r_bm_5,r_bm_4,r_bm_3,r_bm_2,r_bm_1,r_bm_0]++[(10,[2])])
def r_cx_0:=rg [
a8o 2 0] [0]
def r_cx_1:=rg [
a82 3 0,a8r 4 n_bm [(.t 3)],a88 2 4] [2]
def c_cx:ICode:=(.seq r_cx_0 (.seq r_cx_1 .ret))
def i_cx:IFunc:=⟨1,[.t 2],c_cx⟩
def a_cx:=zzy (zzz 1 [r_cx_1,r_cx_0])
def r_ce_0:=rg [
oo 4 (.asg (.c (.int .u64 0)))] [0,1]
def r_ce_1:=rg [
a82 5 1] [0,5]
def r_ce_2:=rg [
a82 6 0,a8r 7 n_cz [(.t 6)],a88 4 7] [4]
def r_ce_3:=rg [
a82 8 0,oo 9 (.cvInt .u64 (.t 8)),a88 4 9] [4]
def c_ce:ICode:=(.seq r_ce_0 (.seq r_ce_1 (.cond (.t 5) (.seq r_ce_2 .ret) (.seq r_ce_3 .ret))))
def i_ce:IFunc:=⟨2,[.t 4],c_ce⟩
def a_ce:=zzy (zzz 3 [r_ce_3,r_ce_2,r_ce_1,r_ce_0])
def r_aq_0:=rg [
oo 6 (.asg (.c .nilS)),a8o 7 0] [0,1,2]
def r_aq_1:=rg [
a82 15 1,a8z 16 false 15,a8p 17 .lss 16 1,a82 18 17,a8u 19 18 false 1,og 20 18 false (.len false (.t 19)),og 21 18 false (.bin .gtr (.t 20) (ci 512)),a86 22 18 21,a82 23 22,a8u 24 23 false 1,a8u 25 23 false 2,og 26 23 false (.call false n_bt [(.t 24),(.t 25)]),a86 27 23 26] [0,1,2,27]
@[go_sem] def r_aq_2_o:Ops:=[
oo 6 (.asg (.c .nilS)),a8o 7 1]
def r_aq_2:=rg r_aq_2_o [6,7]
def r_aq_3:=rg [
a82 28 1,a8z 29 false 28,oo 30 (.mkS 1 8 (.int .u64 0) (.t 29) (.t 29)),a88 8 30] [0,1,2,8]
def r_aq_4:=rg [
a8o 9 0] [0,1,2,8,9]
def r_aq_5:=rg [
a82 31 1,a8z 32 false 31,oo 33 (.mv (ci 0))] [0,1,2,8,9,31,32,33]
def az3:=rg [
a8q 34 .lss 33 32] [0,1,2,8,9,31,32,33,34]
def az2:=rg [
a82 35 33,a8x 36 1 31 33,a80 37 36,a88 10 35,a88 11 37] [0,1,2,8,9,10,11,31,32,33]
def az1:=rg [
a82 38 8,a82 39 10,a82 40 11,a82 41 2,a8r 42 n_ce [(.t 40),(.t 41)],a8x 43 1 38 39,a87 1 43 42] [0,1,2,8,9,10,31,32,33]
def az0:=rg [
a82 44 9,a82 45 8,a82 46 10,a8x 47 1 45 46,a80 48 47,a8r 49 n_cx [(.t 48)],oo 50 (.minmax true [(.t 44),(.t 49)]),a88 9 50] [0,1,2,8,9,31,32,33]
def agp:=rg [
a8p 51 .add 33 1,a82 33 51] [0,1,2,8,9,31,32,33]
def ajo:ICode:=(.seq az3 (.seq (.cond (.t 34) .skip (.exit 0)) (.seq (.block 1 (.seq az2 (.seq az1 az0))) agp)))
def a6y:=a8v ajo.eq_1
def ago:=rg [
a82 52 9,a8r 53 n_dw [(.t 52)],a88 12 53] [0,1,8,12]
def agn:=rg [
a82 55 12,a8r 56 n_dt [(.t 55)],a82 54 56,a89 57 54 0,a89 58 54 1,a88 13 57,a88 14 58] [0,1,8,12,13]
def agm:=rg [
a82 59 0,a82 60 13,a82 61 1,a8z 62 false 61,a8r 63 n_cw [(.t 59),(ci 1),(.t 60),(.t 62)],a82 64 8,a82 65 12,a8r 66 n_ax [(.t 63),(.t 64),(.t 65)],a88 6 66,a8o 7 0] [6,7]
def c_aq:ICode:=(.seq r_aq_0 (.seq r_aq_1 (.cond (.t 27) (.seq r_aq_2 .ret) (.seq r_aq_3 (.seq r_aq_4 (.seq (.seq r_aq_5 (.block 0 (.loop ajo))) (.seq ago (.seq agn (.seq (.seq (.demote [8]) agm) .ret)))))))))
def i_aq:IFunc:=⟨3,[.t 6,.t 7],c_aq⟩
def a_aq:Advice:=⟨[],zzz 10 [agp,az0,az1,az2,az3,r_aq_5,r_aq_4,r_aq_3,.ret,r_aq_1,r_aq_0]++[(13,[6,7]),(12,[0,1,8,12,13]),(11,[0,1,8,12]),(2,[6,7])],[(13,[8])],[],[],[]⟩
def r_az_0:=rg [
oo 6 (.asg (.c .nilS))] [0,1,2]
def r_az_1:=rg [
a82 18 0,a82 19 1,a82 20 2,a8r 21 n_aq [(.t 18),(.t 19),(.t 20)],a82 17 21,a89 22 17 0,a89 23 17 1,a88 7 22,a88 8 23] [0,1,2,7]
def r_az_2:=rg [
a82 25 1,a8r 26 n_ap [(.t 25)],a82 24 26,a89 27 24 0,a89 28 24 1,a89 29 24 2,a88 9 27,a88 10 28,a88 11 29] [0,1,2,7,9,10,11]
def r_az_3:=rg [
a8o 12 1] [0,1,2,7,9,10,11,12]
def r_az_4:=rg [
a82 31 10,a82 32 31,a8u 33 32 true 9,og 34 32 true (.bin .eql (.t 33) (ci 0)),a85 35 32 34,a82 36 35,a8u 37 36 true 1,og 38 36 true (.len false (.t 37)),og 39 36 true (.bin .geq (.t 38) (ci 3)),a85 40 36 39,a82 41 40,a8u 42 41 true 1,og 43 41 true (.len false (.t 42)),og 44 41 true (.bin .leq (.t 43) (ci 10)),a85 45 41 44,a88 30 45] [0,1,2,7,11,12,30]
def r_az_5:=rg [
a8o 12 0] [0,1,2,7,12]
def r_az_6:=rg [
a82 47 11,a82 48 47,a8u 49 48 true 1,og 50 48 true (.len false (.t 49)),og 51 48 true (.bin .geq (.t 50) (ci 2)),a85 52 48 51,a88 46 52] [0,1,2,7,12,46]
def r_az_7:=rg [
a8o 12 3] [0,1,2,7,12]
def r_az_8:=rg [
a82 53 12] [0,1,2,7,53]
def r_az_9:=rg [
a8p 55 .eql 53 0,a88 54 55] [0,1,2,7,53,54]
def azg:=rg [
a8p 57 .eql 53 3,a88 56 57] [0,1,2,7,56]
def azf:=rg [
a82 59 0,a82 60 1,oo 61 (.idxA 1 (.t 60) (ci 0)),a80 62 61,a82 63 1,a8z 64 false 63,a82 65 2,a8r 66 n_br [(.t 59),(.t 62),(.t 64),(.t 65)],a82 58 66,a89 67 58 0,a89 68 58 1,a88 13 67,a88 14 68] [0,1,2,7,13,14]
def aze:=rg [
a82 69 14,a8p 70 .eql 69 0,a82 71 70,a8u 72 71 true 13,og 73 71 true (.len false (.t 72)),a8u 74 71 true 7,og 75 71 true (.len false (.t 74)),og 76 71 true (.bin .lss (.t 73) (.t 75)),a85 77 71 76] [0,1,2,7,13,77]
def azd:=rg [
a82 78 13,a88 7 78] [0,1,2,7]
def af6:=rg [
a82 80 0,a82 81 1,a82 82 2,a8r 83 n_ae [(.t 80),(.t 81),(.t 82)],a82 79 83,a89 84 79 0,a89 85 79 1,a88 15 84,a88 16 85] [7,15,16]
def af5:=rg [
a82 86 16,a8p 87 .eql 86 0,a82 88 87,a8u 89 88 true 15,og 90 88 true (.len false (.t 89)),a8u 91 88 true 7,og 92 88 true (.len false (.t 91)),og 93 88 true (.bin .lss (.t 90) (.t 92)),a85 94 88 93] [7,15,94]
def af4:=rg [
a82 95 15,a88 7 95] [7]
def af3:=rg [
a82 96 7,a88 6 96] [6]
def c_az:ICode:=(.seq r_az_0 (.seq r_az_1 (.seq r_az_2 (.seq r_az_3 (.seq (.block 0 (.seq r_az_4 (.cond (.t 30) r_az_5 (.seq r_az_6 (.cond (.t 46) r_az_7 .skip))))) (.seq (.seq r_az_8 (.block 1 (.seq (.block 3 (.seq (.block 2 (.seq (.seq (.seq r_az_9 (.cond (.t 54) (.exit 2) .skip)) (.seq azg (.cond (.t 56) (.exit 3) .skip))) (.exit 1))) (.seq azf (.seq aze (.cond (.t 77) azd .skip))))) (.seq (.seq af6 (.seq af5 (.cond (.t 94) af4 .skip))) (.exit 1))))) (.seq af3 .ret)))))))
def i_az:IFunc:=⟨3,[.t 6],c_az⟩
def a_az:=zzy (zzz 17 [af3,af4,af5,af6,azd,aze,azf,azg,r_az_9,r_az_8,r_az_7,r_az_6,r_az_5,r_az_4,r_az_3,r_az_2,r_az_1,r_az_0])
def r_b9_0:=rg [
a8o 4 0,a8n 5 false] [0,1]
def r_b9_1:=rg [
a82 7 0,a82 8 1,a8q 9 .sub 7 8,a88 6 9] [0,1,6]
def r_b9_2:=rg [
a82 10 6,a82 11 0,a8q 12 .lss 10 11,a82 13 1,a8p 14 .gtr 13 0,oo 15 (.eqn true .bool (.t 12) (.t 14)),a82 16 15,a8u 17 16 true 1,og 18 16 true (.bin .neq (.t 17) (ci 0)),a85 19 16 18] [6,19]
def r_b9_3:=rg [
a8o 4 0,a8n 5 false] [4,5]
def r_b9_4:=rg [
a82 20 6,a88 4 20,a8n 5 true] [4,5]
def c_b9:ICode:=(.seq r_b9_0 (.seq r_b9_1 (.seq r_b9_2 (.cond (.t 19) (.seq r_b9_3 .ret) (.seq r_b9_4 .ret)))))
def i_b9:IFunc:=⟨2,[.t 4,.t 5],c_b9⟩
def a_b9:=zzy (zzz 4 [r_b9_4,r_b9_3,r_b9_2,r_b9_1,r_b9_0])
def r_cn_0:=rg [
a8o 4 0,a8n 5 false] [0,1]
def r_cn_1:=rg [
a82 9 1,a82 10 0,a8r 11 n_b9 [(.t 9),(.t 10)],a82 8 11,a89 12 8 0,a89 13 8 1,a88 6 12,a88 7 13] [6,7]
def r_cn_2:=rg [
a82 14 6,a82 15 7,a82 16 15,a8u 17 16 true 6,og 18 16 true (.bin .geq (.t 17) (ci (-128))),a85 19 16 18,a82 20 19,a8u 21 20 true 6,og 22 20 true (.bin .leq (.t 21) (ci 127)),a85 23 20 22,a88 4 14,a88 5 23] [4,5]
def c_cn:ICode:=(.seq r_cn_0 (.seq r_cn_1 (.seq r_cn_2 .ret)))
def i_cn:IFunc:=⟨2,[.t 4,.t 5],c_cn⟩
def a_cn:=zzy (zzz 2 [r_cn_2,r_cn_1,r_cn_0])
def r_bh_0:=rg [
a8o 2 0,a8o 3 0] [0]
def r_bh_1:=rg [
a82 9 0,a8z 10 false 9,a8p 11 .lss 10 2] [0,11]
def r_bh_2:=rg [
a82 12 0,a8z 13 false 12,a88 2 13,a8o 3 0] [2,3]
@[go_sem] def an0:Ops:=[
a82 15 0,oo 16 (.idxA 1 (.t 15) (ci 0)),a80 17 16,a82 18 0,oo 19 (.idxA 1 (.t 18) (ci 1)),a80 20 19,a8r 21 n_cn [(.t 17),(.t 20)],a82 14 21,a89 22 14 0,a89 23 14 1,a88 4 22,a88 5 23]
def an1:List (Nat×Nat):=[(0,3),(1,3),(2,3),(0,4),(1,4),(2,4),(0,5),(1,5),(2,5),(8,9),(9,10)]
def r_bh_3:ICode:= .region an0 an1 [0,4,5]
@[go_sem] theorem r_bh_3_u:Gu X K s r_bh_3 an1 an0 [0,4,5]:=go_regionU' _ _ _ _
def r_bh_4:=rg [
a82 24 5,a84 25 24] [0,4,25]
def r_bh_5:=rg [
a8o 2 1,a8o 3 0] [2,3]
def r_bh_6:=rg [
a8o 6 2] [0,4,6]
def ay6:=rg [
a82 26 6,a82 27 0,a8z 28 false 27,a8q 29 .lss 26 28] [0,4,6,29]
@[go_sem] def ant:Ops:=[
a82 31 0,a82 32 6,a8p 33 .sub 32 1,a8x 34 1 31 33,a80 35 34,a82 36 0,a82 37 6,a8x 38 1 36 37,a80 39 38,a8r 40 n_cn [(.t 35),(.t 39)],a82 30 40,a89 41 30 0,a89 42 30 1,a88 7 41,a88 8 42]
def anu:List (Nat×Nat):=[(0,1),(0,2),(0,5),(1,5),(2,5),(3,5),(4,5),(0,6),(1,6),(2,6),(3,6),(4,6),(5,6),(0,7),(1,7),(2,7),(3,7),(4,7),(0,8),(1,8),(2,8),(3,8),(4,8),(11,12),(12,13)]
def ay5:ICode:= .region ant anu [0,4,6,7,8]
@[go_sem] theorem r_bh_8_u:Gu X K s ay5 anu ant [0,4,6,7,8]:=go_regionU' _ _ _ _
def ay4:=rg [
a82 43 8,a84 44 43,a82 45 44,a8u 46 45 false 7,a8u 47 45 false 4,og 48 45 false (.bin .neq (.t 46) (.t 47)),a86 49 45 48] [0,4,6,49]
def afz:=rg [
a82 50 6,a8p 51 .add 50 1,a88 6 51] [0,4,6]
def ajl:ICode:=(.seq (.seq ay6 (.cond (.t 29) .skip (.exit 0))) (.block 1 (.seq ay5 (.seq (.seq ay4 (.cond (.t 49) (.exit 0) .skip)) afz))))
def a6z:=a8v ajl.eq_1
def afy:=rg [
a82 52 6,a82 53 4,a88 2 52,a88 3 53] [2,3]
def c_bh:ICode:=(.seq r_bh_0 (.seq r_bh_1 (.cond (.t 11) (.seq r_bh_2 .ret) (.seq r_bh_3 (.seq r_bh_4 (.cond (.t 25) (.seq r_bh_5 .ret) (.seq r_bh_6 (.seq (.block 0 (.loop ajl)) (.seq afy .ret)))))))))
def i_bh:IFunc:=⟨1,[.t 2,.t 3],c_bh⟩
def a_bh:=zzy (zzz 10 [afz,ay4,.ret,ay6,r_bh_6,r_bh_5,r_bh_4,.ret,r_bh_2,r_bh_1,r_bh_0]++[(11,[2,3]),(8,[0,4,6,7,8]),(3,[0,4,5])])
def r_bq_0:=rg [
oo 4 (.asg (.c .nilS))] [0,1]
def r_bq_1:=rg [
a82 6 0,oo 7 (.call true n_bc [(.t 6)]),a88 5 7] [1,5]
def ay0:=rg [
a82 8 1,oo 9 (.bin .geq (.t 8) (.c (.int .u64 128)))] [1,5,9]
def ayz:=rg [
a82 10 5,a82 11 1,oo 12 (.cvInt .u8 (.t 11)),oo 13 (.bin .or (.t 12) (.c (.int .u8 128))),oo 14 (.lit false 1 1 (.int .u8 0) [(0,(.t 13))]),oo 15 (.append 1 1 (.t 10) (.t 14)),a88 5 15] [1,5]
def ayy:=rg [
a82 16 1,oo 17 (.bin .shr (.t 16) (.c (.int .u64 7))),a88 1 17] [1,5]
def a5a:ICode:=(.seq (.seq ay0 (.cond (.t 9) .skip (.exit 0))) (.block 1 (.seq ayz ayy)))
def a62:=a8v a5a.eq_1
def ayx:=rg [
a82 18 5,a82 19 1,oo 20 (.cvInt .u8 (.t 19)),oo 21 (.lit false 1 1 (.int .u8 0) [(0,(.t 20))]),oo 22 (.append 1 1 (.t 18) (.t 21)),a8r 23 n_c9 [(.t 22)],a88 4 23] [4]
def c_bq:ICode:=(.seq r_bq_0 (.seq r_bq_1 (.seq (.block 0 (.loop a5a)) (.seq ayx .ret))))
def i_bq:IFunc:=⟨2,[.t 4],c_bq⟩
def a_bq:Advice:=⟨[7,15],zzz 4 [ayy,ayz,ay0,r_bq_1,r_bq_0]++[(5,[4])],[],[],[],[]⟩
def r_cz_0:=rg [
oo 2 (.asg (.c (.int .u64 0)))] [0]
def r_cz_1:=rg [
a82 3 0,oo 4 (.cvInt .u64 (.t 3)),oo 5 (.bin .shl (.t 4) (.c (.int .u64 1))),a82 6 0,oo 7 (.bin .shr (.t 6) (.c (.int .u64 63))),oo 8 (.cvInt .u64 (.t 7)),a8q 9 .xor 5 8,a88 2 9] [2]
def c_cz:ICode:=(.seq r_cz_0 (.seq r_cz_1 .ret))
def i_cz:IFunc:=⟨1,[.t 2],c_cz⟩
def a_cz:=zzy (zzz 1 [r_cz_1,r_cz_0])
def r_b7_0:=rg [
oo 6 (.asg (.c .nilS))] [0,1,2]
def r_b7_1:=rg [
a82 7 2] [0,1,7]
def r_b7_2:=rg [
a82 8 0,a82 9 1,a8r 10 n_cz [(.t 9)],oo 11 (.call true n_bq [(.t 8),(.t 10)]),a88 6 11] [6]
def r_b7_3:=rg [
a82 12 0,a82 13 1,oo 14 (.cvInt .u64 (.t 13)),oo 15 (.call true n_bq [(.t 12),(.t 14)]),a88 6 15] [6]
def c_b7:ICode:=(.seq r_b7_0 (.seq r_b7_1 (.cond (.t 7) (.seq r_b7_2 .ret) (.seq r_b7_3 .ret))))
def i_b7:IFunc:=⟨3,[.t 6],c_b7⟩
def a_b7:Advice:=⟨[11,15],zzz 3 [r_b7_3,r_b7_2,r_b7_1,r_b7_0],[],[],[],[]⟩
def r_aw_0:=rg [
a80 6 0,a8r 7 n_cu [(.t 6),(ci 128)]] [0,1,2,7]
def azx:=rg [
a88 3 8] [1,2,3]
def a5c:ICode:=azx
def a63:=a8v a5c.eq_1
def azw:=rg [
a80 9 1,a82 10 3,a8z 11 false 10,oo 12 (.bin .sub (ci 256) (.t 11)),oo 13 (.cvInt .u8 (.t 12)),oo 14 (.lit false 1 1 (.int .u8 0) [(0,(.t 13))]),oo 15 (.append 1 1 (.t 9) (.t 14)),a87 1 1 15] [1,2,3]
def azv:=rg [
a82 16 3,a8z 17 false 16,oo 18 (.mv (ci 0))] [1,2,16,17,18]
def azu:=rg [
a8q 19 .lss 18 17] [1,2,16,17,18,19]
def azt:=rg [
a8x 20 1 16 18,a80 21 20,a88 5 21] [1,2,5,16,17,18]
def azs:=rg [
a80 22 1,a82 23 5,a80 24 2,oo 25 (.call true n_b7 [(.t 22),(.t 23),(.t 24)]),a87 1 1 25] [1,2,16,17,18]
def azr:=rg [
a8p 26 .add 18 1,a82 18 26] [1,2,16,17,18]
def au7:ICode:=(.seq azu (.seq (.cond (.t 19) .skip (.exit 2)) (.seq (.block 3 (.seq azt azs)) azr)))
def a64:=a8v au7.eq_1
def ajn:ICode:=(.block 1 (.seq azw (.seq azv (.block 2 (.loop au7)))))
def a66:=a8v ajn.eq_1
def age:=rg [
ow (.store 1 (.t 0) (.c .nilS))] []
def c_aw:ICode:=(.seq (.seq (.seq (.give [0]) r_aw_0) (.block 0 (.each (.t 7) [8] a5c ajn))) age)
def i_aw:IFunc:=⟨3,[],c_aw⟩
def a_aw:Advice:=⟨[15,25],a8y [(7,azs),(1,azx),(0,r_aw_0)]++[(8,[]),(6,[1,2,16,17,18]),(5,[1,2,5,16,17,18]),(4,[1,2,16,17,18,19]),(3,[1,2,16,17,18]),(2,[1,2,3])],[],[],[],[(0,[0])]⟩
def r_bx_0:=rg [
a8n 2 false] [0]
def r_bx_1:=rg [
a82 3 0,a8p 4 .lss 3 0,a88 2 4] [2]
def c_bx:ICode:=(.seq r_bx_0 (.seq r_bx_1 .ret))
def i_bx:IFunc:=⟨1,[.t 2],c_bx⟩
def a_bx:=zzy (zzz 1 [r_bx_1,r_bx_0])
def r_ac_0:=rg [
oo 3 (.box 1 (.t 1)),oo 4 (.asg (.c .nilS)),a8o 5 0] [0,3]
def r_bx:=rg [
a80 14 3,a84 15 14,a82 16 15,a8u 17 16 true 0,og 18 16 true (.call false n_bg [(.t 17),(.c (.fn n_bx))]),a85 19 16 18,a88 13 19] [0,3,13]
@[go_sem] def r_aw_o:Ops:=[
oo 4 (.asg (.c .nilS)),a8o 5 1]
def r_aw:=rg r_aw_o [4,5]
def r_ac_3:=rg [
a82 21 0,a8z 22 false 21,a8p 23 .gtr 22 16384,a88 20 23] [0,3,20]
@[go_sem] def r_ac_4_o:Ops:=[
oo 4 (.asg (.c .nilS)),a8o 5 4]
def r_ac_4:=rg r_ac_4_o [4,5]
def r_ac_5:=rg [
oo 6 (.alloc [.nilS])] [0,3,6]
def r_ac_6:=rg [
oo 7 (.alloc [.nilS])] [0,3,6,7]
def r_ac_7:=rg [
oo 24 (.mkF n_aw [] [(.t 7),(.t 6),(.t 3)]),a88 8 24] [0,3,6,7,8]
def r_ac_8:=rg [
a8o 9 0] [0,3,6,7,8,9]
def a2f:=rg [
a82 25 9,a82 26 0,a8z 27 false 26,a8q 28 .lss 25 27] [0,3,6,7,8,9,28]
def ah2:=rg [
a82 30 0,a82 31 9,oo 32 (.slice 1 (.t 30) (some (.t 31)) none none),a8r 33 n_bh [(.t 32)],a82 29 33,a89 34 29 0,a89 35 29 1,a88 10 34,a88 11 35] [0,3,6,7,8,9,10,11]
def ah1:=rg [
a82 36 10,a8p 37 .lss 36 3] [0,3,6,7,8,9,10,11,37]
@[go_sem] def acy:Ops:=[
a80 38 7,a82 39 0,a82 40 9,a8x 41 1 39 40,a80 42 41,oo 43 (.lit false 1 1 (.int .i64 0) [(0,(.t 42))]),oo 44 (.append 1 8 (.t 38) (.t 43)),a87 1 7 44]
def acz:List (Nat×Nat):=[(0,1),(0,2),(1,2),(0,3),(0,4),(0,5)]
def ah0:ICode:= .region acy acz [0,3,6,7,8,9]
@[go_sem] theorem r_ac_12_u:Gu X K s ah0 acz acy [0,3,6,7,8,9]:=go_regionU' _ _ _ _
def ahz:=rg [
a82 45 9,a8p 46 .add 45 1,a88 9 46] [0,3,6,7,8,9]
def ahy:=rg [
a82 47 8,oo 48 (.callv false (.t 47) [])] [0,3,6,7,8,9,10,11]
def ahx:=rg [
a82 49 10,a8p 50 .geq 49 3] [0,3,6,7,8,9,10,11,50]
def ahw:=rg [
a82 51 10,oo 52 (.minmax false [(.t 51),(ci 130)]),a88 12 52] [0,3,6,7,8,9,10,11,12]
def ahv:=rg [
a82 53 10,a82 54 12,a8q 55 .sub 53 54,a8p 56 .gtr 55 0,a82 57 56,a8u 58 57 true 10,a8u 59 57 true 12,og 60 57 true (.bin .sub (.t 58) (.t 59)),og 61 57 true (.bin .lss (.t 60) (ci 3)),a85 62 57 61] [0,3,6,7,8,9,10,11,12,62]
def ahu:=rg [
a82 63 10,a8p 64 .sub 63 3,a88 12 64] [0,3,6,7,8,9,10,11,12]
@[go_sem] def acq:Ops:=[
a80 65 6,a82 66 12,a8p 67 .sub 66 3,oo 68 (.cvInt .u8 (.t 67)),a82 69 11,oo 70 (.cvInt .u8 (.t 69)),oo 71 (.lit false 1 2 (.int .u8 0) [(0,(.t 68)),(1,(.t 70))]),oo 72 (.append 1 1 (.t 65) (.t 71)),a82 73 0,a82 74 9,a8x 75 1 73 74,a80 76 75,a80 77 3,oo 78 (.call true n_b7 [(.t 72),(.t 76),(.t 77)]),a87 1 6 78]
def acr:List (Nat×Nat):=[(0,1),(0,2),(0,3),(0,4),(1,4),(2,4),(3,4),(0,5),(1,5),(2,5),(3,5),(0,6),(0,8),(1,8),(2,8),(3,8),(4,8),(5,8),(6,8),(7,8),(0,9),(1,9),(2,9),(3,9),(4,9),(5,9),(6,9),(7,9),(8,9),(0,10),(1,10),(2,10),(3,10),(4,10),(5,10),(6,10),(7,10),(0,11),(1,11),(2,11),(3,11),(4,11),(5,11),(6,11),(7,11),(0,12),(1,12),(2,12),(3,12),(4,12),(5,12),(6,12),(7,12),(8,12),(9,12),(10,12),(11,12)]
def aht:ICode:= .region acq acr [0,3,6,7,8,9,10,11,12]
@[go_sem] theorem r_ac_19_u:Gu X K s aht acr acq [0,3,6,7,8,9,10,11,12]:=go_regionU' _ _ _ _
def ahs:=rg [
a82 79 9,a82 80 12,a8q 81 .add 79 80,a82 82 10,a82 83 12,a8q 84 .sub 82 83,a88 9 81,a88 10 84] [0,3,6,7,8,9,10,11]
def xc:ICode:=(.seq (.seq ahx (.cond (.t 50) .skip (.exit 3))) (.block 4 (.seq ahw (.seq (.seq ahv (.cond (.t 62) ahu .skip)) (.seq aht ahs)))))
def a68:=a8v xc.eq_1
def xb:ICode:=(.seq (.seq a2f (.cond (.t 28) .skip (.exit 1))) (.block 2 (.seq ah2 (.seq (.seq ah1 (.cond (.t 37) (.seq ah0 (.seq ahz (.exit 2))) .skip)) (.seq ahy (.block 3 (.loop xc)))))))
def a69:=a8v xb.eq_1
def vn:=rg [
a82 85 8,oo 86 (.callv false (.t 85) [])] [6]
def vj:=rg [
a80 87 6,a8r 88 n_c9 [(.t 87)],a88 4 88,a8o 5 0] [4,5]
def c_ac:ICode:=(.seq r_ac_0 (.seq (.block 0 (.seq r_bx (.cond (.t 13) (.seq r_aw .ret) (.seq r_ac_3 (.cond (.t 20) (.seq r_ac_4 .ret) .skip))))) (.seq r_ac_5 (.seq r_ac_6 (.seq r_ac_7 (.seq (.seq r_ac_8 (.block 1 (.loop xb))) (.seq vn (.seq vj .ret))))))))
def i_ac:IFunc:=⟨2,[.t 4,.t 5],c_ac⟩
def a_ac:Advice:=⟨[44,78],zzz 20 [ahs,.ret,ahu,ahv,ahw,ahx,ahy,ahz,.ret,ah1,ah2,a2f,r_ac_8,r_ac_7,r_ac_6,r_ac_5,.ret,r_ac_3,.ret,.ret,r_ac_0]++[(22,[4,5]),(21,[6]),(19,[0,3,6,7,8,9,10,11,12]),(12,[0,3,6,7,8,9]),(2,[4,5]),(4,[4,5]),(1,[0,3,13])],[],[],[],[]⟩
def r_b6_0:=rg [
a8n 2 false] [0]
def r_b6_1:=rg [
a82 3 0,a8p 4 .lss 3 0,a88 2 4] [2]
def c_b6:ICode:=(.seq r_b6_0 (.seq r_b6_1 .ret))
def i_b6:IFunc:=⟨1,[.t 2],c_b6⟩
def a_b6:=zzy (zzz 1 [r_b6_1,r_b6_0])
def r_af_0:=rg [
a8o 4 0] [0,1]
def r_af_1:=rg [
a82 6 0,a8z 7 false 6,oo 8 (.mv (ci 0))] [0,1,7,8]
def a2b:=rg [
a8q 9 .lss 8 7] [0,1,7,8,9]
def a2a:=rg [
a82 10 8,a88 5 10] [0,1,5,7,8]
def a19:=rg [
a82 11 1,a82 12 0,a82 13 5,a8x 14 1 12 13,a80 15 14,oo 16 (.callv false (.t 11) [(.t 15)])] [0,1,5,7,8,16]
@[go_sem] def r_af_5_o:Ops:=[
a82 17 5,a88 4 17]
def r_af_5:=rg r_af_5_o [4]
def a18:=rg [
a8p 18 .add 8 1,a82 8 18] [0,1,7,8]
def a5i:ICode:=(.seq a2b (.seq (.cond (.t 9) .skip (.exit 0)) (.seq (.block 1 (.seq a2a (.seq a19 (.cond (.t 16) (.seq r_af_5 .ret) .skip)))) a18)))
def a7a:=a8v a5i.eq_1
def a17:=rg [
oo 4 (.asg (ci (-1)))] [4]
def c_af:ICode:=(.seq r_af_0 (.seq (.seq r_af_1 (.block 0 (.loop a5i))) (.seq a17 .ret)))
def i_af:IFunc:=⟨2,[.t 4],c_af⟩
def a_af:=zzy (zzz 6 [a18,.ret,a19,a2a,a2b,r_af_1,r_af_0]++[(7,[4]),(5,[4])])
def r_bg_0:=rg [
a8n 4 false] [0,1]
def r_bg_1:=rg [
a82 5 0,a82 6 1,a8r 7 n_af [(.t 5),(.t 6)],a8p 8 .geq 7 0,a88 4 8] [4]
def c_bg:ICode:=(.seq r_bg_0 (.seq r_bg_1 .ret))
def i_bg:IFunc:=⟨2,[.t 4],c_bg⟩
def a_bg:=zzy (zzz 1 [r_bg_1,r_bg_0])
def r_bt_0:=rg [
a8n 4 false] [0,1]
def r_b6:=rg [
a82 5 1,a84 6 5,a82 7 6,a8u 8 7 true 0,og 9 7 true (.call false n_bg [(.t 8),(.c (.fn n_b6))]),a85 10 7 9,a88 4 10] [4]
def c_bt:ICode:=(.seq r_bt_0 (.seq r_b6 .ret))
def i_bt:IFunc:=⟨2,[.t 4],c_bt⟩
def a_bt:=zzy (zzz 0 [r_bt_0]++[(1,[4])])
def r_au_0:=rg [
oo 4 (.box 1 (.t 1)),oo 6 (.asg (.c .nilS)),a8o 7 0] [0,2,4]
def r_au_1:=rg [
a82 13 2,a8p 14 .neq 13 1,a82 15 14,a8u 16 15 true 2,og 17 15 true (.bin .neq (.t 16) (ci 2)),a85 18 15 17,a82 19 18,a8u 20 19 false 0,og 21 19 false (.load none (.t 4)),og 22 19 false (.call false n_bt [(.t 20),(.t 21)]),a86 23 19 22,a88 12 23] [0,2,4,12]
@[go_sem] def r_au_2_o:Ops:=[
oo 6 (.asg (.c .nilS)),a8o 7 1]
def r_au_2:=rg r_au_2_o [6,7]
def r_au_3:=rg [
a82 25 0,a8z 26 false 25,a8p 27 .gtr 26 16384,a88 24 27] [0,2,4,24]
@[go_sem] def r_au_4_o:Ops:=[
oo 6 (.asg (.c .nilS)),a8o 7 4]
def r_au_4:=rg r_au_4_o [6,7]
def r_au_5:=rg [
a82 29 2,a8p 30 .eql 29 1,a88 28 30] [0,4,28]
def r_au_6:=rg [
a82 31 0,a80 32 4,a8r 33 n_ac [(.t 31),(.t 32)],a89 34 33 0,a89 35 33 1,a88 6 34,a88 7 35] [6,7]
def r_au_7:=rg [
oo 8 (.alloc [.nilS])] [0,4,8]
def r_au_8:=rg [
a82 36 0,a8r 37 n_cu [(.t 36),(ci 512)]] [4,8,37]
def azy:=rg [
a88 9 38] [4,8,9]
def a5e:ICode:=azy
def a7b:=a8v a5e.eq_1
def agl:=rg [
oo 10 (.asg (.c .nilS))] [4,8,9]
def agk:=rg [
a82 39 9,a80 40 4,a8r 41 n_az [(.c .nilS),(.t 39),(.t 40)],a88 10 41] [4,8,9,10]
def agj:=rg [
a82 42 9,a80 43 4,a8r 44 n_ak [(.t 42),(.t 43)],a88 11 44] [8,10,11]
def agi:=rg [
a82 45 11,a8z 46 false 45,a82 47 10,a8z 48 false 47,a8q 49 .lss 46 48] [8,10,11,49]
def agh:=rg [
a82 50 11,a88 10 50] [8,10]
def agf:=rg [
a80 51 8,a82 52 10,oo 53 (.append 1 1 (.t 51) (.t 52)),a87 1 8 53] []
def a5d:ICode:=(.block 2 (.seq agl (.seq agk (.seq (.seq agj (.seq agi (.cond (.t 49) agh .skip))) agf))))
def a7c:=a8v a5d.eq_1
def azz:=rg [
a80 54 8,a8r 55 n_c9 [(.t 54)],a88 6 55,a8o 7 0] [6,7]
def c_au:ICode:=(.seq r_au_0 (.seq (.block 0 (.seq r_au_1 (.cond (.t 12) (.seq r_au_2 .ret) (.seq r_au_3 (.cond (.t 24) (.seq r_au_4 .ret) (.seq r_au_5 (.cond (.t 28) (.seq r_au_6 .ret) .skip))))))) (.seq r_au_7 (.seq (.seq r_au_8 (.block 1 (.each (.t 37) [38] a5e a5d))) (.seq azz .ret)))))
def i_au:IFunc:=⟨3,[.t 6,.t 7],c_au⟩
def a_au:Advice:=⟨[53],zzz 9 [azy,r_au_8,r_au_7,r_au_6,r_au_5,.ret,r_au_3,.ret,r_au_1,r_au_0]++[(16,[6,7]),(15,[]),(14,[8,10]),(13,[8,10,11,49]),(12,[8,10,11]),(11,[4,8,9,10]),(10,[4,8,9]),(2,[6,7]),(4,[6,7])],[],[],[],[]⟩
def r_bd_0:=rg [
a82 11 2,a82 12 3,a82 13 0,a83 14 13,a8s 15 1 14,a8s 16 2 15,a80 17 16,a8r 18 n_au [(.t 11),(.t 12),(.t 17)],a82 10 18,a89 19 10 0,a89 20 10 1,a88 8 19,a88 9 20] [0,1,8,9]
def r_bd_1:=rg [
a82 21 9,a8p 22 .neq 21 0,a82 23 22,a8u 24 23 true 0,og 25 23 true (.nilck (.t 24)),og 26 23 true (.fieldA 10 (.t 25)),og 27 23 true (.load none (.t 26)),og 28 23 true (.bin .eql (.t 27) (ci 0)),a85 29 23 28] [0,1,8,9,29]
@[go_sem] def r_bd_2_o:Ops:=[
a82 30 0,a82 31 9,a83 32 30,a8s 33 10 32,a87 1 33 31]
def r_bd_2:=rg r_bd_2_o [0,1,8]
def r_bd_3:=rg [
a82 34 0,a83 35 34,a8s 36 1 35,a8s 37 2 36,a80 38 37,a8p 39 .eql 38 2] [0,1,8,39]
def r_bd_4:=rg [
a82 40 0,a83 41 40,a8s 42 7 41,a8s 43 0 42,a80 44 43,a8p 45 .or 44 2,a83 46 40,a8s 47 7 46,a8s 48 0 47,a87 1 48 45] [0,1,8]
def r_bd_5:=rg [
a82 49 0,a82 50 1,a82 51 8,a8r 52 n_bo [(.t 49),(.t 50),(.t 51)]] []
def c_bd:ICode:=(.seq r_bd_0 (.seq (.seq r_bd_1 (.cond (.t 29) r_bd_2 .skip)) (.seq (.seq r_bd_3 (.cond (.t 39) r_bd_4 .skip)) r_bd_5)))
def i_bd:IFunc:=⟨4,[],c_bd⟩
def a_bd:=zzy (zzz 5 [r_bd_5,r_bd_4,r_bd_3,.ret,r_bd_1,r_bd_0]++[(2,[0,1,8])])
def r_b5_0:=rg [
oo 4 (.asg (.c .nilS))] [0,1]
def r_b5_1:=rg [
a82 6 0,oo 7 (.bin .shl (.t 6) (.c (.int .u64 1))),a88 5 7] [1,5]
def r_b5_2:=rg [
a82 8 1] [5,8]
def r_b5_3:=rg [
a82 9 5,a8p 10 .or 9 1,a88 5 10] [5]
def r_b5_4:=rg [
a82 11 5,oo 12 (.cvInt .u8 (.t 11)),a82 13 5,oo 14 (.bin .shr (.t 13) (.c (.int .u64 8))),oo 15 (.cvInt .u8 (.t 14)),a82 16 5,oo 17 (.bin .shr (.t 16) (.c (.int .u64 16))),oo 18 (.cvInt .u8 (.t 17)),oo 19 (.lit false 1 3 (.int .u8 0) [(0,(.t 12)),(1,(.t 15)),(2,(.t 18))]),a88 4 19] [4]
def c_b5:ICode:=(.seq r_b5_0 (.seq r_b5_1 (.seq (.seq r_b5_2 (.cond (.t 8) r_b5_3 .skip)) (.seq r_b5_4 .ret))))
def i_b5:IFunc:=⟨2,[.t 4],c_b5⟩
def a_b5:=zzy (zzz 4 [r_b5_4,r_b5_3,r_b5_2,r_b5_1,r_b5_0])
def a7d:=a8t r_b8_0.eq_1 r_b8_1.eq_1 r_ab_0.eq_1 r_ab_1.eq_1 r_ab_2.eq_1 a2k.eq_1 a2j.eq_1 a2i.eq_1
def a7e:=a8t a2h.eq_1 a2g.eq_1 r_ab_9.eq_1 r_ay_0.eq_1 r_ay_1.eq_1 r_ay_2.eq_1 r_ay_3.eq_1 azk.eq_1
def a7f:=a8t azj.eq_1 azh.eq_1 r_ay_9.eq_1 agb.eq_1 aga.eq_1 af9.eq_1 af8.eq_1 af7.eq_1
def a7g:=a8t azl.eq_1 r_ai_0.eq_1 r_ai_1.eq_1 r_ai_3.eq_1 r_ai_4.eq_1 r_ai_5.eq_1 r_ai_6.eq_1 a02.eq_1
def a7h:=a8t ahc.eq_1 ahb.eq_1 aha.eq_1 ag9.eq_1 ag8.eq_1 a0z.eq_1 a0y.eq_1 a0x.eq_1
def a7i:=a8t ag7.eq_1 ag6.eq_1 ag5.eq_1 ag4.eq_1 ag3.eq_1 ag2.eq_1 r_bu_0.eq_1 r_bu_1.eq_1
def a7j:=a8t r_bu_2.eq_1 ayw.eq_1 ayv.eq_1 ayu.eq_1 ayt.eq_1 r_bu_8.eq_1 r_av_0.eq_1 r_av_1.eq_1
def a7k:=a8t r_av_2.eq_1 r_av_3.eq_1 r_av_4.eq_1 r_av_5.eq_1 r_av_6.eq_1 r_av_7.eq_1 r_av_8.eq_1 r_av_9.eq_1
def a7l:=a8t r_cg_0.eq_1 r_cg_1.eq_1 r_cg_2.eq_1 r_bn_0.eq_1 r_bn_1.eq_1 r_bn_2.eq_1 r_bn_3.eq_1 r_bn_5.eq_1
def a7m:=a8t r_bn_6.eq_1 ay3.eq_1 ay1.eq_1 afx.eq_1 afw.eq_1 r_b4_0.eq_1 r_ak_0.eq_1 r_b4.eq_1
def a7n:=a8t r_ak_2.eq_1 r_ak_3.eq_1 r_ak_4.eq_1 a0q.eq_1 a0p.eq_1 a0o.eq_1 a0n.eq_1 a0m.eq_1
def a7o:=a8t ag0.eq_1 agz.eq_1 agy.eq_1 agx.eq_1 r_ae_0.eq_1 r_ae_1.eq_1 r_ae_2.eq_1 r_ae_3.eq_1
def a7p:=a8t r_ae_4.eq_1 r_ae_5.eq_1 r_ae_6.eq_1 a2e.eq_1 a2c.eq_1 ahr.eq_1 ahq.eq_1 ahp.eq_1
def a7q:=a8t aho.eq_1 ahn.eq_1 ahm.eq_1 ahl.eq_1 ahk.eq_1 ahj.eq_1 ahh.eq_1 ahg.eq_1
def a7r:=a8t ahf.eq_1 ahe.eq_1 r_am_0.eq_1 r_am_1.eq_1 r_am_2.eq_1 r_am_3.eq_1 r_am_4.eq_1 r_am_5.eq_1
def a7s:=a8t r_am_6.eq_1 r_am_7.eq_1 r_am_8.eq_1 r_am_9.eq_1 a0l.eq_1 a0k.eq_1 a0j.eq_1 a0i.eq_1
def a7t:=a8t a0h.eq_1 a0g.eq_1 a0f.eq_1 a0e.eq_1 a0d.eq_1 a0c.eq_1 r_br_0.eq_1 r_br_1.eq_1
def a7u:=a8t r_br_3.eq_1 r_br_4.eq_1 r_br_5.eq_1 r_br_6.eq_1 r_ap_0.eq_1 r_ap_1.eq_1 r_ap_2.eq_1 a0a.eq_1
def a7v:=a8t az8.eq_1 az7.eq_1 az6.eq_1 az5.eq_1 az4.eq_1 agq.eq_1 vi.eq_1 p9.eq_1
def a7w:=a8t p8.eq_1 p7.eq_1 r_ax_0.eq_1 r_ax_1.eq_1 r_ax_2.eq_1 r_ax_4.eq_1 r_ax_5.eq_1 azq.eq_1
def a7x:=a8t azp.eq_1 azo.eq_1 azn.eq_1 agd.eq_1 agc.eq_1 vf.eq_1 u9.eq_1 u7.eq_1
def a7y:=a8t u6.eq_1 r_cw_0.eq_1 r_cw_1.eq_1 r_bm_0.eq_1 r_bm_1.eq_1 r_bm_2.eq_1 r_bm_3.eq_1 r_bm_4.eq_1
def a7z:=a8t r_bm_5.eq_1 r_bm_6.eq_1 r_bm_7.eq_1 r_bm_8.eq_1 r_bm_9.eq_1 r_cx_0.eq_1 r_cx_1.eq_1 r_ce_0.eq_1
def a70:=a8t r_ce_1.eq_1 r_ce_2.eq_1 r_ce_3.eq_1 r_aq_0.eq_1 r_aq_1.eq_1 r_aq_3.eq_1 r_aq_4.eq_1 r_aq_5.eq_1
def a72:=a8t az3.eq_1 az2.eq_1 az1.eq_1 az0.eq_1 agp.eq_1 ago.eq_1 agn.eq_1 agm.eq_1
def a75:=a8t r_az_0.eq_1 r_az_1.eq_1 r_az_2.eq_1 r_az_3.eq_1 r_az_4.eq_1 r_az_5.eq_1 r_az_6.eq_1 r_az_7.eq_1
def a76:=a8t r_az_8.eq_1 r_az_9.eq_1 azg.eq_1 azf.eq_1 aze.eq_1 azd.eq_1 af6.eq_1 af5.eq_1
def a77:=a8t af4.eq_1 af3.eq_1 r_b9_0.eq_1 r_b9_1.eq_1 r_b9_2.eq_1 r_b9_3.eq_1 r_b9_4.eq_1 r_cn_0.eq_1
def a78:=a8t r_cn_1.eq_1 r_cn_2.eq_1 r_bh_0.eq_1 r_bh_1.eq_1 r_bh_2.eq_1 r_bh_4.eq_1 r_bh_5.eq_1 r_bh_6.eq_1
def a79:=a8t ay6.eq_1 ay4.eq_1 afz.eq_1 afy.eq_1 r_bq_0.eq_1 r_bq_1.eq_1 ay0.eq_1 ayz.eq_1
def a8a:=a8t ayy.eq_1 ayx.eq_1 r_cz_0.eq_1 r_cz_1.eq_1 r_b7_0.eq_1 r_b7_1.eq_1 r_b7_2.eq_1 r_b7_3.eq_1
def a8b:=a8t r_aw_0.eq_1 azx.eq_1 azw.eq_1 azv.eq_1 azu.eq_1 azt.eq_1 azs.eq_1 azr.eq_1
def a8c:=a8t age.eq_1 r_bx_0.eq_1 r_bx_1.eq_1 r_ac_0.eq_1 r_bx.eq_1 r_ac_3.eq_1 r_ac_5.eq_1 r_ac_6.eq_1
def a8d:=a8t r_ac_7.eq_1 r_ac_8.eq_1 a2f.eq_1 ah2.eq_1 ah1.eq_1 ahz.eq_1 ahy.eq_1 ahx.eq_1
def a8e:=a8t ahw.eq_1 ahv.eq_1 ahu.eq_1 ahs.eq_1 vn.eq_1 vj.eq_1 r_b6_0.eq_1 r_b6_1.eq_1
def a8f:=a8t r_af_0.eq_1 r_af_1.eq_1 a2b.eq_1 a2a.eq_1 a19.eq_1 a18.eq_1 a17.eq_1 r_bg_0.eq_1
def a8g:=a8t r_bg_1.eq_1 r_bt_0.eq_1 r_b6.eq_1 r_au_0.eq_1 r_au_1.eq_1 r_au_3.eq_1 r_au_5.eq_1 r_au_6.eq_1
def a8h:=a8t r_au_7.eq_1 r_au_8.eq_1 azy.eq_1 agl.eq_1 agk.eq_1 agj.eq_1 agi.eq_1 agh.eq_1
def a8i:=a8t agf.eq_1 azz.eq_1 r_bd_0.eq_1 r_bd_1.eq_1 r_bd_3.eq_1 r_bd_4.eq_1 r_bd_5.eq_1 r_b5_0.eq_1
def a8j:=a8w r_b5_1.eq_1
def a8k:=a8w r_b5_2.eq_1
def a8l:=a8w r_b5_3.eq_1
def a8m:=a8w r_b5_4.eq_1
attribute [go_sem] a6m a6n a6o a6p a6q a6r a6s a6t a6u a6v a6w a6x a6y a6z a62 a63 a64 a66 a68 a69 a7a a7b a7c a7d a7e a7f a7g a7h a7i a7j a7k a7l a7m a7n a7o a7p a7q a7r a7s a7t a7u a7v a7w a7x a7y a7z a70 a72 a75 a76 a77 a78 a79 a8a a8b a8c a8d a8e a8f a8g a8h a8i a8j a8k a8l a8m
end Go.Proofs.YtkdiccgfbfbjlaaGreat
