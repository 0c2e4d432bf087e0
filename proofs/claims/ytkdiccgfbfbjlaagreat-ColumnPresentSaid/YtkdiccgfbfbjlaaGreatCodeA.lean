import Derived.Test.YtkdiccgfbfbjlaaGreatOrc
import Derived.Test.YtkdiccgfbfbjlaaGreatChecked
namespace Go.Proofs.YtkdiccgfbfbjlaaGreat
set_option linter.defProp false
open Go.Ev Go
variable {X:Kx} {K:List Kf} {s:St}
def n_aa:FuncId:=6
def n_dc:FuncId:=8
def n_dh:FuncId:=12
def n_bd:FuncId:=15
def n_ac:FuncId:=16
def n_cg:FuncId:=17
def n_cz:FuncId:=34
def n_bn:FuncId:=35
def n_bz:FuncId:=36
def n_af:FuncId:=37
def n_dm:FuncId:=38
def n_bk:FuncId:=39
def n_ay:FuncId:=40
def n_b7:FuncId:=41
def n_bg:FuncId:=42
def n_ct:FuncId:=43
def n_bu:FuncId:=44
def n_dl:FuncId:=45
def n_de:FuncId:=46
def n_dn:FuncId:=47
def n_df:FuncId:=48
def n_db:FuncId:=49
def n_bm:FuncId:=79
def n_am:FuncId:=80
def n_bo:FuncId:=81
def n_bp:FuncId:=82
def n_cu:FuncId:=83
def n_c8:FuncId:=84
def n_aq:FuncId:=85
def n_bq:FuncId:=86
def n_cy:FuncId:=87
def n_ai:FuncId:=112
def n_cn:FuncId:=113
def n_az:FuncId:=114
def n_b4:FuncId:=115
def n_b6:FuncId:=116
def n_c9:FuncId:=117
def n_bt:FuncId:=118
def n_ab:FuncId:=119
def n_cr:FuncId:=120
def n_aw:FuncId:=121
def n_aj:FuncId:=122
def n_dk:FuncId:=145
def n_ax:FuncId:=146
def n_dg:FuncId:=147
def n_bv:FuncId:=148
def n_ba:FuncId:=149
def n_b8:FuncId:=150
def n_bx:FuncId:=151
def n_au:FuncId:=152
def n_b9:FuncId:=153
def n_bc:FuncId:=154
def n_da:FuncId:=155
def n_ap:FuncId:=156
def n_ao:FuncId:=157
def n_br:FuncId:=158
def n_ae:FuncId:=159
def n_b5:FuncId:=160
def n_bl:FuncId:=161
def n_cm:FuncId:=170
def n_ah:FuncId:=171
def n_bw:FuncId:=172
def n_ag:FuncId:=173
def n_ck:FuncId:=174
def n_cf:FuncId:=175
def n_cx:FuncId:=176
def n_dj:FuncId:=177
def n_di:FuncId:=178
def n_av:FuncId:=179
def n_cw:FuncId:=180
def n_ce:FuncId:=181
def n_ak:FuncId:=182
def n_bh:FuncId:=184
@[go_sem] def r_bu_0_o:Ops:=[
oo 2 (.asg (.c (.int .u64 0)))]
def r_bu_0:=rg r_bu_0_o [0]
@[go_sem] def r_bu_1_o:Ops:=[
a3r 5 0,a3e 6 .leq 5 0]
def r_bu_1:=rg r_bu_1_o [0,6]
@[go_sem] def r_bu_2_o:Ops:=[
oo 2 (.asg (.c (.int .u64 0)))]
def r_bu_2:=rg r_bu_2_o [2]
@[go_sem] def r_bu_3_o:Ops:=[
a3d 3 0]
def r_bu_3:=rg r_bu_3_o [0,3]
@[go_sem] def r_bu_4_o:Ops:=[
a3r 7 0,a3x 4 7]
def r_bu_4:=rg r_bu_4_o [0,3,4]
@[go_sem] def r_bu_5_o:Ops:=[
a3r 8 4,a3e 9 .rem 8 10,a3e 10 .eql 9 0,a3r 11 10,a3j 12 11 true 3,og 13 11 true (.bin .lss (.t 12) (ci 8)),a3u 14 11 13]
def r_bu_5:=rg r_bu_5_o [0,3,4,14]
@[go_sem] def r_bu_6_o:Ops:=[
a3r 17 3,a3e 18 .add 17 1,a3x 3 18]
def r_bu_6:=rg r_bu_6_o [0,3,4]
@[go_sem] def r_bu_7_o:Ops:=[
a3r 15 4,a3e 16 .quo 15 10,a3x 4 16]
def r_bu_7:=rg r_bu_7_o [0,3,4]
def b_bu_8:ICode:=(.seq (.seq r_bu_5 (.cond (.t 14) .skip (.exit 0))) (.seq (.block 1 r_bu_6) r_bu_7))
def a1g:=a3k b_bu_8.eq_1
@[go_sem] def r_bu_9_o:Ops:=[
a3r 19 3,a3e 20 .lss 19 2]
def r_bu_9:=rg r_bu_9_o [0,3,20]
@[go_sem] def at4:Ops:=[
a3r 21 0,oo 22 (.cvInt .u64 (.t 21)),oo 23 (.bin .shl (.t 22) (.c (.int .u64 3))),a3x 2 23]
def r_bu_10:=rg at4 [2]
@[go_sem] def at3:Ops:=[
a3r 24 3,oo 25 (.mv (ci 0))]
def r_bu_11:=rg at3 [0,3,24,25]
@[go_sem] def at0:Ops:=[
a3f 26 .lss 25 24]
def at2:=rg at0 [0,3,24,25,26]
@[go_sem] def aty:Ops:=[
a3r 27 0,a3e 28 .quo 27 10,a3x 0 28]
def atz:=rg aty [0,3,24,25]
@[go_sem] def atw:Ops:=[
a3e 29 .add 25 1,a3r 25 29]
def atx:=rg atw [0,3,24,25]
def az5:ICode:=(.seq at2 (.seq (.cond (.t 26) .skip (.exit 2)) (.seq (.block 3 atz) atx)))
def a1h:=a3k az5.eq_1
@[go_sem] def atv:Ops:=[
a3r 30 0,oo 31 (.cvInt .u64 (.t 30)),oo 32 (.bin .shl (.t 31) (.c (.int .u64 3))),a3r 33 3,a3e 34 .sub 33 1,oo 35 (.cvInt .u64 (.t 34)),a3f 36 .or 32 35,a3x 2 36]
def r_bu_16:=rg atv [2]
def c_bu:ICode:=(.seq r_bu_0 (.seq r_bu_1 (.cond (.t 6) (.seq r_bu_2 .ret) (.seq r_bu_3 (.seq (.seq r_bu_4 (.block 0 (.loop b_bu_8))) (.seq r_bu_9 (.cond (.t 20) (.seq r_bu_10 .ret) (.seq (.seq r_bu_11 (.block 2 (.loop az5))) (.seq r_bu_16 .ret)))))))))
def i_bu:IFunc:=⟨1,[.t 2],c_bu⟩
def a_bu:=zzy ([(14,[2]),(13,[0,3,24,25]),(12,[0,3,24,25]),(11,[0,3,24,25,26]),(10,[0,3,24,25]),(9,[2]),(8,[0,3,20]),(6,[0,3,4]),(7,[0,3,4]),(5,[0,3,4,14]),(4,[0,3,4]),(3,[0,3]),(2,[2]),(1,[0,6]),(0,[0])])
@[go_sem] def r_ct_0_o:Ops:=[
a3d 2 0]
def r_ct_0:=rg r_ct_0_o [0]
@[go_sem] def r_ct_1_o:Ops:=[
a3r 3 0,a3g 4 n_bu [(.t 3)],oo 5 (.cvInt .i64 (.t 4)),a3x 2 5]
def r_ct_1:=rg r_ct_1_o [2]
def c_ct:ICode:=(.seq r_ct_0 (.seq r_ct_1 .ret))
def i_ct:IFunc:=⟨1,[.t 2],c_ct⟩
def a_ct:=zzy ([(1,[2]),(0,[0])])
def r_bg_0:=rg [
oo 4 (.asg (.c .nilS))] [0,1]
def r_bg_1:=rg [
a3r 8 0,a3o 9 false 8,oo 10 (.mkS 1 8 (.int .i64 0) (.t 9) (.t 9)),a3x 5 10] [0,1,5]
def r_bg_2:=rg [
a3r 11 0,a3o 12 false 11,oo 13 (.mv (ci 0))] [1,5,11,12,13]
def aup:=rg [
a3f 14 .lss 13 12] [1,5,11,12,13,14]
def auo:=rg [
a3r 15 13,a3m 16 1 11 13,a3p 17 16,a3x 6 15,a3x 7 17] [1,5,6,7,11,12,13]
def aun:=rg [
a3r 18 5,a3r 19 6,a3r 20 1,a3r 21 7,oo 22 (.callv false (.t 20) [(.t 21)]),a3m 23 1 18 19,a3w 1 23 22] [1,5,11,12,13]
def aum:=rg [
a3e 24 .add 13 1,a3r 13 24] [1,5,11,12,13]
def a0a:ICode:=(.seq aup (.seq (.cond (.t 14) .skip (.exit 0)) (.seq (.block 1 (.seq auo aun)) aum)))
def a1i:=a3k a0a.eq_1
def aul:=rg [
a3r 25 5,a3x 4 25] [4]
def c_bg:ICode:=(.seq r_bg_0 (.seq r_bg_1 (.seq (.seq r_bg_2 (.block 0 (.loop a0a))) (.seq aul .ret))))
def i_bg:IFunc:=⟨2,[.t 4],c_bg⟩
def a_bg:=zzy (zzz 6 [aum,aun,auo,aup,r_bg_2,r_bg_1,r_bg_0]++[(7,[4])])
def r_bl_0:=rg [
a3d 2 0] [0]
def r_bl_1:=rg [
a3r 8 0,a3o 9 false 8,oo 10 (.minmax false [(.t 9),(ci 2)]),a3x 3 10] [0,3]
def r_bl_2:=rg [
a3r 11 3,a3e 12 .lss 11 2] [0,3,12]
def r_bl_3:=rg [
a3r 13 3,a3x 2 13] [2]
@[go_sem] def aij:Ops:=[
a3r 15 0,oo 16 (.idxA 1 (.t 15) (ci 1)),a3p 17 16,a3r 18 0,oo 19 (.idxA 1 (.t 18) (ci 0)),a3p 20 19,a3g 21 n_ce [(.t 17),(.t 20)],a3r 14 21,a3y 22 14 0,a3y 23 14 1,a3x 4 22,a3x 5 23]
def aik:List (Nat×Nat):=[(0,3),(1,3),(2,3),(0,4),(1,4),(2,4),(0,5),(1,5),(2,5),(8,9),(9,10)]
def r_bl_4:ICode:= .region aij aik [0,3,4,5]
@[go_sem] theorem r_bl_4_u:Gu X K s r_bl_4 aik aij [0,3,4,5]:=go_regionU' _ _ _ _
def r_bl_5:=rg [
a3r 24 5,a3t 25 24] [0,3,4,25]
def r_bl_6:=rg [
a3d 2 1] [2]
def auk:=rg [
a3r 26 3,a3r 27 0,a3o 28 false 27,a3f 29 .lss 26 28] [0,3,4,29]
@[go_sem] def aie:Ops:=[
a3r 31 0,a3r 32 3,a3m 33 1 31 32,a3p 34 33,a3r 35 0,a3r 36 3,a3e 37 .sub 36 1,a3m 38 1 35 37,a3p 39 38,a3g 40 n_ce [(.t 34),(.t 39)],a3r 30 40,a3y 41 30 0,a3y 42 30 1,a3x 6 41,a3x 7 42]
def aif:List (Nat×Nat):=[(0,1),(0,4),(1,4),(2,4),(3,4),(0,5),(1,5),(2,5),(3,5),(4,5),(0,6),(1,6),(2,6),(3,6),(4,6),(0,7),(1,7),(2,7),(3,7),(0,8),(1,8),(2,8),(3,8),(11,12),(12,13)]
def auj:ICode:= .region aie aif [0,3,4,6,7]
@[go_sem] theorem r_bl_8_u:Gu X K s auj aif aie [0,3,4,6,7]:=go_regionU' _ _ _ _
def aui:=rg [
a3r 43 7,a3t 44 43,a3r 45 44,a3j 46 45 false 6,a3j 47 45 false 4,og 48 45 false (.bin .neq (.t 46) (.t 47)),a3v 49 45 48] [0,3,4,49]
def aby:=rg [
a3r 50 3,a3e 51 .add 50 1,a3x 3 51] [0,3,4]
def ae2:ICode:=(.seq (.seq auk (.cond (.t 29) .skip (.exit 0))) (.block 1 (.seq auj (.seq (.seq aui (.cond (.t 49) (.exit 0) .skip)) aby))))
def a1j:=a3k ae2.eq_1
def abx:=rg [
a3r 52 3,a3x 2 52] [2]
def c_bl:ICode:=(.seq r_bl_0 (.seq r_bl_1 (.seq r_bl_2 (.cond (.t 12) (.seq r_bl_3 .ret) (.seq r_bl_4 (.seq r_bl_5 (.cond (.t 25) (.seq r_bl_6 .ret) (.seq (.block 0 (.loop ae2)) (.seq abx .ret)))))))))
def i_bl:IFunc:=⟨1,[.t 2],c_bl⟩
def a_bl:=zzy (zzz 10 [aby,aui,.ret,auk,r_bl_6,r_bl_5,.ret,r_bl_3,r_bl_2,r_bl_1,r_bl_0]++[(11,[2]),(8,[0,3,4,6,7]),(4,[0,3,4,5])])
def r_b5_0:=rg [
a3r 6 0,a3p 7 1,a3f 8 .gtr 6 7] [0,1,2,3,4,8]
@[go_sem] def akb:Ops:=[
a3p 9 2,a3p 10 3,a3p 11 1,a3r 12 0,oo 13 (.slice 1 (.t 10) (some (.t 11)) (some (.t 12)) none),a3p 14 4,a3g 15 n_aw [(.t 9),(.t 13),(.t 14)],a3w 1 2 15]
def akc:List (Nat×Nat):=[(0,1),(0,2),(1,2),(0,3),(1,3),(2,3),(0,4),(0,5),(1,5),(2,5),(3,5),(4,5)]
def r_b5_1:ICode:= .region akb akc []
@[go_sem] theorem r_b5_1_u:Gu X K s r_b5_1 akc akb []:=go_regionU' _ _ _ _
def c_b5:ICode:=(.seq r_b5_0 (.cond (.t 8) r_b5_1 .skip))
def i_b5:IFunc:=⟨5,[],c_b5⟩
def a_b5:=zzy (zzz 0 [r_b5_0]++[(1,[])])
def r_aj_0:=rg [
oo 2 (.box 1 (.t 0)),oo 3 (.box 1 (.t 1)),oo 4 (.asg (.c .nilS))] [2,3]
def r_b5:=rg [
oo 5 (.alloc [.nilS])] [2,3,5]
def r_aj_2:=rg [
oo 6 (.alloc [(.int .i64 0)]),ow (.store 1 (.t 6) (ci 0))] [2,3,5,6]
def r_aj_3:=rg [
oo 10 (.mkF n_b5 [] [(.t 6),(.t 5),(.t 2),(.t 3)]),a3x 7 10] [2,3,5,6,7]
def r_aj_4:=rg [
a3d 8 0] [2,3,5,6,7,8]
def awb:=rg [
a3r 11 8,a3p 12 2,a3o 13 false 12,a3f 14 .lss 11 13] [2,3,5,6,7,8,14]
def awa:=rg [
a3p 15 2,a3r 16 8,oo 17 (.slice 1 (.t 15) (some (.t 16)) none none),a3g 18 n_bl [(.t 17)],a3x 9 18] [2,3,5,6,7,8,9]
def av9:=rg [
a3r 19 9,a3e 20 .lss 19 8] [2,3,5,6,7,8,9,20]
def av8:=rg [
a3r 21 8,a3e 22 .add 21 1,a3x 8 22] [2,3,5,6,7,8]
def av7:=rg [
a3r 23 7,a3r 24 8,oo 25 (.callv false (.t 23) [(.t 24)])] [2,3,5,6,7,8,9]
@[go_sem] def xq:Ops:=[
a3p 26 5,a3p 27 2,a3r 28 8,a3r 29 8,a3r 30 9,a3f 31 .add 29 30,oo 32 (.slice 1 (.t 27) (some (.t 28)) (some (.t 31)) none),a3p 33 3,a3g 34 n_aw [(.t 26),(.t 32),(.t 33)],a3w 1 5 34]
def xr:List (Nat×Nat):=[(0,1),(0,2),(1,2),(0,3),(1,3),(2,3),(0,4),(1,4),(2,4),(3,4),(0,5),(1,5),(2,5),(0,6),(0,7),(1,7),(2,7),(3,7),(4,7),(5,7),(6,7)]
def acx:ICode:= .region xq xr [2,3,5,6,7,8,9]
@[go_sem] theorem r_aj_10_u:Gu X K s acx xr xq [2,3,5,6,7,8,9]:=go_regionU' _ _ _ _
def acw:=rg [
a3r 35 8,a3r 36 9,a3f 37 .add 35 36,a3x 8 37] [2,3,5,6,7,8]
def acv:=rg [
a3r 38 8,a3w 1 6 38] [2,3,5,6,7,8]
def ae8:ICode:=(.seq (.seq awb (.cond (.t 14) .skip (.exit 0))) (.block 1 (.seq awa (.seq (.seq av9 (.cond (.t 20) (.seq av8 (.exit 1)) .skip)) (.seq av7 (.seq acx (.seq acw acv)))))))
def a1k:=a3k ae8.eq_1
def acu:=rg [
a3r 39 7,a3p 40 2,a3o 41 false 40,oo 42 (.callv false (.t 39) [(.t 41)])] [5]
def act:=rg [
a3p 43 5,a3x 4 43] [4]
def c_aj:ICode:=(.seq r_aj_0 (.seq r_b5 (.seq r_aj_2 (.seq r_aj_3 (.seq (.seq r_aj_4 (.block 0 (.loop ae8))) (.seq acu (.seq act .ret)))))))
def i_aj:IFunc:=⟨2,[.t 4],c_aj⟩
def a_aj:=zzy (zzz 12 [acv,acw,.ret,av7,av8,av9,awa,awb,r_aj_4,r_aj_3,r_aj_2,.ret,r_aj_0]++[(14,[4]),(13,[5]),(10,[2,3,5,6,7,8,9]),(1,[2,3,5])])
def r_ae_0:=rg [
oo 6 (.asg (.c .nilS)),a3d 7 0] [0,1,2]
def r_ae_1:=rg [
a3r 21 1,a3g 22 n_ao [(.t 21)],a3r 20 22,a3y 23 20 0,a3y 24 20 1,a3y 25 20 2,a3x 8 23,a3x 9 24,a3x 10 25] [0,1,2,8,9,10]
def r_ae_2:=rg [
a3r 26 1,a3o 27 false 26,a3e 28 .lss 27 2,a3r 29 28,a3j 30 29 false 1,og 31 29 false (.len false (.t 30)),og 32 29 false (.bin .gtr (.t 31) (ci 512)),a3v 33 29 32,a3r 34 33,a3j 35 34 false 1,a3j 36 34 false 2,og 37 34 false (.call false n_bt [(.t 35),(.t 36)]),a3v 38 34 37,a3r 39 38,a3j 40 39 false 10,og 41 39 false (.un .not (.t 40)),a3v 42 39 41] [0,1,2,8,9,42]
def r_ae_3:=rg [
oo 6 (.asg (.c .nilS)),a3d 7 1] [6,7]
def r_ae_4:=rg [
oo 11 (.asg (.c .nilS))] [0,1,2,8,9,11]
def r_ae_5:=rg [
a3d 12 2] [0,1,2,8,9,11,12]
def r_ae_6:=rg [
a3d 13 2] [0,1,2,8,9,11,12,13]
def awy:=rg [
a3r 43 13,a3r 44 1,a3o 45 false 44,a3f 46 .lss 43 45] [0,1,2,8,9,11,12,13,46]
@[go_sem] def aoj:Ops:=[
a3r 50 1,a3r 51 13,a3m 52 1 50 51,a3p 53 52,a3r 54 1,a3r 55 13,a3e 56 .sub 55 1,a3m 57 1 54 56,a3p 58 57,a3g 59 n_ce [(.t 53),(.t 58)],a3r 49 59,a3y 60 49 0,a3y 61 49 1,a3x 14 60,a3x 15 61]
def aok:List (Nat×Nat):=[(0,1),(0,4),(1,4),(2,4),(3,4),(0,5),(1,5),(2,5),(3,5),(4,5),(0,6),(1,6),(2,6),(3,6),(4,6),(0,7),(1,7),(2,7),(3,7),(0,8),(1,8),(2,8),(3,8),(11,12),(12,13)]
def awx:ICode:= .region aoj aok [0,1,2,8,9,11,12,13,14]
@[go_sem] theorem r_ae_8_u:Gu X K s awx aok aoj [0,1,2,8,9,11,12,13,14]:=go_regionU' _ _ _ _
def aww:=rg [
a3r 62 14,oo 63 (.cvInt .u64 (.t 62)),a3x 16 63] [0,1,2,8,9,11,12,13,14,16]
def adc:=rg [
a3r 64 14,a3e 65 .lss 64 0] [0,1,2,8,9,11,12,13,16,65]
def adb:=rg [
a3r 66 16,oo 67 (.un .neg (.t 66)),a3x 16 67] [0,1,2,8,9,11,12,13,16]
def ada:=rg [
a3r 68 11,a3r 69 16,oo 70 (.lit false 1 1 (.int .u64 0) [(0,(.t 69))]),oo 71 (.append 1 8 (.t 68) (.t 70)),a3x 11 71] [0,1,2,8,9,11,12,13,16]
def ac9:=rg [
a3r 72 12,a3r 73 16,a3g 74 n_cx [(.t 73)],oo 75 (.minmax true [(.t 72),(.t 74)]),a3x 12 75] [0,1,2,8,9,11,12,13]
def ac8:=rg [
a3r 47 13,a3e 48 .add 47 1,a3x 13 48] [0,1,2,8,9,11,12,13]
def ae9:ICode:=(.seq (.seq awy (.cond (.t 46) .skip (.exit 0))) (.seq (.block 1 (.seq awx (.seq aww (.seq (.seq adc (.cond (.t 65) adb .skip)) (.seq ada ac9))))) ac8))
def a1l:=a3k ae9.eq_1
def ac7:=rg [
a3d 17 0,a3d 18 0] [0,1,2,8,9,11,12,17,18]
def ac6:=rg [
a3r 76 9,a3t 77 76] [0,1,2,8,9,11,12,17,18,77]
def ac5:=rg [
a3r 78 12,a3g 79 n_dj [(.t 78)],a3x 17 79] [0,1,2,8,9,11,17]
def ac4:=rg [
a3r 81 17,a3g 82 n_di [(.t 81)],a3r 80 82,a3y 83 80 0,a3y 84 80 1,a3x 18 83] [0,1,2,8,9,11,17,18]
@[go_sem] def yd:Ops:=[
a3r 85 0,a3r 86 18,a3r 87 1,a3o 88 false 87,a3g 89 n_cw [(.t 85),(ci 3),(.t 86),(.t 88)],a3r 90 1,oo 91 (.idxA 1 (.t 90) (ci 0)),a3p 92 91,a3r 93 2,a3g 94 n_cf [(.t 92),(.t 93)],a3g 95 n_bq [(.t 89),(.t 94)],a3x 19 95]
def ye:List (Nat×Nat):=[(0,1),(0,2),(1,2),(0,3),(1,3),(0,5),(1,5),(2,5),(3,5),(4,5),(0,6),(1,6),(2,6),(3,6),(4,6),(0,7),(1,7),(2,7),(3,7),(4,7),(0,8),(1,8),(2,8),(3,8),(4,8),(5,8),(6,8),(7,8)]
def ac3:ICode:= .region yd ye [8,9,11,17,19]
@[go_sem] theorem r_ae_20_u:Gu X K s ac3 ye yd [8,9,11,17,19]:=go_regionU' _ _ _ _
def ac2:=rg [
a3r 96 19,a3r 97 8,a3g 98 n_cy [(.t 97)],a3g 99 n_bq [(.t 96),(.t 98)],a3x 19 99] [9,11,17,19]
def ac1:=rg [
a3r 100 9] [11,17,19,100]
def ac0:=rg [
a3r 101 19,a3x 6 101,a3d 7 0] [6,7]
def acz:=rg [
a3r 102 19,a3r 103 11,a3r 104 17,a3g 105 n_av [(.t 102),(.t 103),(.t 104)],a3x 6 105,a3d 7 0] [6,7]
def c_ae:ICode:=(.seq r_ae_0 (.seq r_ae_1 (.seq r_ae_2 (.cond (.t 42) (.seq r_ae_3 .ret) (.seq r_ae_4 (.seq r_ae_5 (.seq (.seq r_ae_6 (.block 0 (.loop ae9))) (.seq ac7 (.seq (.seq ac6 (.cond (.t 77) (.seq ac5 ac4) .skip)) (.seq ac3 (.seq ac2 (.seq ac1 (.cond (.t 100) (.seq ac0 .ret) (.seq (.seq (.demote [11]) acz) .ret))))))))))))))
def i_ae:IFunc:=⟨3,[.t 6,.t 7],c_ae⟩
def a_ae:Advice:=⟨[71],a3n [(23,ac0),(14,ac8),(12,ada),(7,awy),(6,r_ae_6),(5,r_ae_5),(4,r_ae_4),(3,r_ae_3),(2,r_ae_2),(1,r_ae_1),(0,r_ae_0)]++[(22,[6,7]),(21,[11,17,19,100]),(20,[9,11,17,19]),(19,[8,9,11,17,19]),(18,[0,1,2,8,9,11,17,18]),(17,[0,1,2,8,9,11,17]),(16,[0,1,2,8,9,11,12,17,18,77]),(15,[0,1,2,8,9,11,12,17,18]),(8,[0,1,2,8,9,11,12,13]),(13,[0,1,2,8,9,11,12,13,16]),(11,[0,1,2,8,9,11,12,13,16,65]),(10,[0,1,2,8,9,11,12,13,14,16]),(9,[0,1,2,8,9,11,12,13,14])],[(23,[11])],[],[],[]⟩
def r_ak_0:=rg [
oo 6 (.asg (.c .nilS))] [0,1,2]
def r_ak_1:=rg [
a3r 8 0,oo 9 (.call true n_az [(.t 8)]),a3x 7 9] [1,2,7]
def r_ak_2:=rg [
a3r 10 2] [1,7,10]
def r_ak_3:=rg [
a3e 12 .eql 10 8,a3x 11 12] [1,7,10,11]
def r_ak_4:=rg [
a3e 14 .eql 10 7,a3x 13 14] [1,7,10,13]
def r_ak_5:=rg [
a3e 16 .eql 10 6,a3x 15 16] [1,7,10,15]
def r_ak_6:=rg [
a3e 18 .eql 10 5,a3x 17 18] [1,7,10,17]
def r_ak_7:=rg [
a3e 20 .eql 10 4,a3x 19 20] [1,7,10,19]
def r_ak_8:=rg [
a3e 22 .eql 10 3,a3x 21 22] [1,7,10,21]
def r_ak_9:=rg [
a3e 24 .eql 10 2,a3x 23 24] [1,7,10,23]
def av6:=rg [
a3e 26 .eql 10 1,a3x 25 26] [1,7,25]
def av5:=rg [
a3r 27 7,a3r 28 1,oo 29 (.bin .shr (.t 28) (.c (.int .u64 56))),oo 30 (.cvInt .u8 (.t 29)),oo 31 (.lit false 1 1 (.int .u8 0) [(0,(.t 30))]),oo 32 (.append 1 1 (.t 27) (.t 31)),a3x 7 32] [1,7]
def av4:=rg [
a3r 33 7,a3r 34 1,oo 35 (.bin .shr (.t 34) (.c (.int .u64 48))),oo 36 (.cvInt .u8 (.t 35)),oo 37 (.lit false 1 1 (.int .u8 0) [(0,(.t 36))]),oo 38 (.append 1 1 (.t 33) (.t 37)),a3x 7 38] [1,7]
def av3:=rg [
a3r 39 7,a3r 40 1,oo 41 (.bin .shr (.t 40) (.c (.int .u64 40))),oo 42 (.cvInt .u8 (.t 41)),oo 43 (.lit false 1 1 (.int .u8 0) [(0,(.t 42))]),oo 44 (.append 1 1 (.t 39) (.t 43)),a3x 7 44] [1,7]
def av2:=rg [
a3r 45 7,a3r 46 1,oo 47 (.bin .shr (.t 46) (.c (.int .u64 32))),oo 48 (.cvInt .u8 (.t 47)),oo 49 (.lit false 1 1 (.int .u8 0) [(0,(.t 48))]),oo 50 (.append 1 1 (.t 45) (.t 49)),a3x 7 50] [1,7]
def av1:=rg [
a3r 51 7,a3r 52 1,oo 53 (.bin .shr (.t 52) (.c (.int .u64 24))),oo 54 (.cvInt .u8 (.t 53)),oo 55 (.lit false 1 1 (.int .u8 0) [(0,(.t 54))]),oo 56 (.append 1 1 (.t 51) (.t 55)),a3x 7 56] [1,7]
def av0:=rg [
a3r 57 7,a3r 58 1,oo 59 (.bin .shr (.t 58) (.c (.int .u64 16))),oo 60 (.cvInt .u8 (.t 59)),oo 61 (.lit false 1 1 (.int .u8 0) [(0,(.t 60))]),oo 62 (.append 1 1 (.t 57) (.t 61)),a3x 7 62] [1,7]
def avz:=rg [
a3r 63 7,a3r 64 1,oo 65 (.bin .shr (.t 64) (.c (.int .u64 8))),oo 66 (.cvInt .u8 (.t 65)),oo 67 (.lit false 1 1 (.int .u8 0) [(0,(.t 66))]),oo 68 (.append 1 1 (.t 63) (.t 67)),a3x 7 68] [1,7]
def avy:=rg [
a3r 69 7,a3r 70 1,oo 71 (.cvInt .u8 (.t 70)),oo 72 (.lit false 1 1 (.int .u8 0) [(0,(.t 71))]),oo 73 (.append 1 1 (.t 69) (.t 72)),a3x 7 73] [7]
def avx:=rg [
a3r 74 7,a3g 75 n_c8 [(.t 74)],a3x 6 75] [6]
def c_ak:ICode:=(.seq r_ak_0 (.seq r_ak_1 (.seq (.seq r_ak_2 (.block 0 (.seq (.block 8 (.seq (.block 7 (.seq (.block 6 (.seq (.block 5 (.seq (.block 4 (.seq (.block 3 (.seq (.block 2 (.seq (.block 1 (.seq (.seq (.seq r_ak_3 (.cond (.t 11) (.exit 1) .skip)) (.seq (.seq r_ak_4 (.cond (.t 13) (.exit 2) .skip)) (.seq (.seq r_ak_5 (.cond (.t 15) (.exit 3) .skip)) (.seq (.seq r_ak_6 (.cond (.t 17) (.exit 4) .skip)) (.seq (.seq r_ak_7 (.cond (.t 19) (.exit 5) .skip)) (.seq (.seq r_ak_8 (.cond (.t 21) (.exit 6) .skip)) (.seq (.seq r_ak_9 (.cond (.t 23) (.exit 7) .skip)) (.seq av6 (.cond (.t 25) (.exit 8) .skip))))))))) (.exit 0))) av5)) av4)) av3)) av2)) av1)) av0)) avz)) (.seq avy (.exit 0))))) (.seq avx .ret))))
def i_ak:IFunc:=⟨3,[.t 6],c_ak⟩
def a_ak:Advice:=⟨[9,32,38,44,50,56,62,68,73],zzz 19 [avx,avy,avz,av0,av1,av2,av3,av4,av5,av6,r_ak_9,r_ak_8,r_ak_7,r_ak_6,r_ak_5,r_ak_4,r_ak_3,r_ak_2,r_ak_1,r_ak_0],[],[],[],[]⟩
def r_br_0:=rg [
oo 8 (.asg (.c .nilS)),a3d 9 0] [0,1,2,3]
def r_br_1:=rg [
a3r 13 2,a3e 14 .lss 13 3,a3r 15 14,a3j 16 15 false 2,og 17 15 false (.bin .gtr (.t 16) (ci 10)),a3v 18 15 17,a3r 19 18,a3j 20 19 false 1,og 21 19 false (.lit false 1 1 (.int .i64 0) [(0,(.t 20))]),a3j 22 19 false 3,og 23 19 false (.call false n_bt [(.t 21),(.t 22)]),a3v 24 19 23] [0,1,2,3,24]
@[go_sem] def r_br_2_o:Ops:=[
oo 8 (.asg (.c .nilS)),a3d 9 1]
def r_br_2:=rg r_br_2_o [8,9]
def r_br_3:=rg [
a3r 25 1,a3r 26 3,a3g 27 n_cf [(.t 25),(.t 26)],a3x 10 27] [0,2,10]
def r_br_4:=rg [
a3r 28 10,a3g 29 n_cx [(.t 28)],a3e 30 .add 29 7,a3e 31 .quo 30 8,oo 32 (.minmax true [(.t 31),(ci 1)]),a3x 11 32] [0,2,10,11]
def r_br_5:=rg [
a3r 33 0,oo 34 (.call true n_az [(.t 33)]),a3r 35 11,a3e 36 .sub 35 1,oo 37 (.bin .shl (.t 36) (.c (.int .u64 3))),oo 38 (.bin .or (ci 0) (.t 37)),a3r 39 2,a3e 40 .sub 39 3,a3f 41 .or 38 40,oo 42 (.cvInt .u8 (.t 41)),oo 43 (.lit false 1 1 (.int .u8 0) [(0,(.t 42))]),oo 44 (.append 1 1 (.t 34) (.t 43)),a3x 12 44] [10,11,12]
def r_br_6:=rg [
a3r 45 12,a3r 46 10,a3r 47 11,a3g 48 n_ak [(.t 45),(.t 46),(.t 47)],a3x 8 48,a3d 9 0] [8,9]
def c_br:ICode:=(.seq r_br_0 (.seq r_br_1 (.cond (.t 24) (.seq r_br_2 .ret) (.seq r_br_3 (.seq r_br_4 (.seq r_br_5 (.seq r_br_6 .ret)))))))
def i_br:IFunc:=⟨4,[.t 8,.t 9],c_br⟩
def a_br:Advice:=⟨[34],zzz 6 [r_br_6,r_br_5,r_br_4,r_br_3,.ret,r_br_1,r_br_0]++[(2,[8,9])],[],[],[],[]⟩
def r_ao_0:=rg [
a3d 2 0,a3c 3 false,a3c 4 false] [0,2]
def r_ao_1:=rg [
a3c 3 true,a3c 4 true] [0,2,3,4]
def r_ao_2:=rg [
a3d 5 1] [0,2,3,4,5]
def avv:=rg [
a3r 8 5,a3r 9 0,a3o 10 false 9,a3f 11 .lss 8 10] [0,2,3,4,5,11]
@[go_sem] def aml:Ops:=[
a3r 15 0,a3r 16 5,a3m 17 1 15 16,a3p 18 17,a3r 19 0,a3r 20 5,a3e 21 .sub 20 1,a3m 22 1 19 21,a3p 23 22,a3g 24 n_ce [(.t 18),(.t 23)],a3r 14 24,a3y 25 14 0,a3y 26 14 1,a3x 6 25,a3x 7 26]
def amm:List (Nat×Nat):=[(0,1),(0,4),(1,4),(2,4),(3,4),(0,5),(1,5),(2,5),(3,5),(4,5),(0,6),(1,6),(2,6),(3,6),(4,6),(0,7),(1,7),(2,7),(3,7),(0,8),(1,8),(2,8),(3,8),(11,12),(12,13)]
def avu:ICode:= .region aml amm [0,2,3,4,5,6,7]
@[go_sem] theorem r_ao_4_u:Gu X K s avu amm aml [0,2,3,4,5,6,7]:=go_regionU' _ _ _ _
def avt:=rg [
a3r 28 7,a3t 29 28,a3x 27 29] [0,2,3,4,5,6,27]
def avs:=rg [
a3r 30 5,a3e 31 .eql 30 1] [0,2,5,31]
def avr:=rg [
a3d 2 0] [0,2,5]
def avq:=rg [
a3c 3 false,a3c 4 false] [0,2,3,4,5]
def avp:=rg [
a3r 33 5,a3e 34 .eql 33 1,a3x 32 34] [0,2,3,4,5,6,32]
def acm:=rg [
a3r 35 6,a3x 2 35] [0,2,3,4,5,6]
def r7:=rg [
a3r 36 3,a3r 37 36,a3j 38 37 true 6,a3j 39 37 true 2,og 40 37 true (.bin .eql (.t 38) (.t 39)),a3u 41 37 40,a3x 3 41] [0,2,3,4,5,6]
def nj:=rg [
a3r 42 4,a3r 43 42,a3j 44 43 true 6,og 45 43 true (.bin .neq (.t 44) (ci (-9223372036854775808))),a3u 46 43 45,a3r 47 46,a3j 48 47 true 2,og 49 47 true (.bin .eql (.t 48) (ci 0)),a3j 50 47 true 49,a3j 51 50 true 6,og 52 50 true (.bin .eql (.t 51) (ci 0)),og 53 47 true (.pick (.t 50) (.t 52) (.c (.bool false))),a3j 54 47 true 53,a3j 55 54 false 2,og 56 54 false (.bin .gtr (.t 55) (ci 0)),a3j 57 54 false 56,a3j 58 57 true 6,og 59 57 true (.bin .geq (.t 58) (ci 0)),og 60 54 false (.pick (.t 57) (.t 59) (.c (.bool false))),og 61 47 true (.pick (.t 54) (.c (.bool true)) (.t 60)),a3j 62 47 true 61,a3j 63 62 false 2,og 64 62 false (.bin .lss (.t 63) (ci 0)),a3j 65 62 false 64,a3j 66 65 true 6,og 67 65 true (.bin .leq (.t 66) (ci 0)),og 68 62 false (.pick (.t 65) (.t 67) (.c (.bool false))),og 69 47 true (.pick (.t 62) (.c (.bool true)) (.t 68)),a3u 70 47 69,a3x 4 70] [0,2,3,4,5]
def ni:=rg [
a3r 12 5,a3e 13 .add 12 1,a3x 5 13] [0,2,3,4,5]
def ou:ICode:=(.seq (.seq avv (.cond (.t 11) .skip (.exit 0))) (.seq (.block 1 (.seq avu (.seq (.block 2 (.seq avt (.cond (.t 27) (.seq (.seq avs (.cond (.t 31) avr .skip)) (.seq avq (.exit 1))) (.seq avp (.cond (.t 32) acm .skip))))) (.seq r7 nj)))) ni))
def a1m:=a3k ou.eq_1
def nh:=rg [
a3r 71 2,a3r 72 3,a3r 73 4,a3x 2 71,a3x 3 72,a3x 4 73] [2,3,4]
def c_ao:ICode:=(.seq r_ao_0 (.seq r_ao_1 (.seq (.seq r_ao_2 (.block 0 (.loop ou))) (.seq nh .ret))))
def i_ao:IFunc:=⟨1,[.t 2,.t 3,.t 4],c_ao⟩
def a_ao:=zzy (a3n [(13,ni),(11,r7),(3,avv),(2,r_ao_2),(1,r_ao_1),(0,r_ao_0)]++[(14,[2,3,4]),(4,[0,2,3,4,5]),(12,[0,2,3,4,5,6]),(9,[0,2,3,4,5]),(8,[0,2,5]),(7,[0,2,5,31]),(10,[0,2,3,4,5,6,32]),(6,[0,2,3,4,5,6,27]),(5,[0,2,3,4,5,6,7])])
def r_av_0:=rg [
oo 6 (.asg (.c .nilS))] [0,1,2]
def r_av_1:=rg [
a3r 14 0,oo 15 (.call true n_az [(.t 14)]),a3x 7 15] [1,2,7]
def r_av_2:=rg [
a3r 16 2,a3e 17 .lss 16 0,a3r 18 17,a3j 19 18 false 2,og 20 18 false (.bin .gtr (.t 19) (ci 64)),a3v 21 18 20] [1,2,7,21]
@[go_sem] def r_av_3_o:Ops:=[
a3r 22 7,a3x 6 22]
def r_av_3:=rg r_av_3_o [6]
def r_av_4:=rg [
a3d 8 0] [1,2,7,8]
def r_av_5:=rg [
a3r 23 1,a3o 24 false 23,oo 25 (.mv (ci 0))] [2,7,8,23,24,25]
def avb:=rg [
a3f 26 .lss 25 24] [2,7,8,23,24,25,26]
def ava:=rg [
a3m 27 1 23 25,a3p 28 27,a3x 10 28] [2,7,8,10,23,24,25]
def au9:=rg [
a3r 29 2,a3x 11 29] [2,7,8,10,11,23,24,25]
def au8:=rg [
a3r 30 11,a3e 31 .gtr 30 0] [2,7,8,10,11,23,24,25,31]
def ab9:=rg [
a3r 32 8,a3e 33 .eql 32 0] [2,7,8,10,11,23,24,25,33]
def ab8:=rg [
a3r 34 7,oo 35 (.lit false 1 1 (.int .u8 0) [(0,(.c (.int .u8 0)))]),oo 36 (.append 1 1 (.t 34) (.t 35)),a3x 7 36,a3d 8 8] [2,7,8,10,11,23,24,25]
def rz:=rg [
a3r 37 11,a3r 38 8,oo 39 (.minmax false [(.t 37),(.t 38)]),a3x 12 39] [2,7,8,10,11,12,23,24,25]
@[go_sem] def v5:Ops:=[
a3r 40 10,a3r 41 11,a3r 42 12,a3f 43 .sub 41 42,a3f 44 .shr 40 43,a3r 45 12,oo 46 (.bin .shl (.c (.int .u64 1)) (.t 45)),oo 47 (.bin .sub (.t 46) (.c (.int .u64 1))),a3f 48 .and 44 47,oo 49 (.cvInt .u8 (.t 48)),a3x 13 49]
def v6:List (Nat×Nat):=[(0,1),(0,2),(1,2),(0,3),(0,5),(1,5),(2,5),(3,5),(4,5),(0,6),(1,6),(2,6),(3,6),(4,6),(0,7),(1,7),(2,7),(3,7),(4,7)]
def ry:ICode:= .region v5 v6 [2,7,8,10,11,12,13,23,24,25]
@[go_sem] theorem r_av_13_u:Gu X K s ry v6 v5 [2,7,8,10,11,12,13,23,24,25]:=go_regionU' _ _ _ _
@[go_sem] def vy:Ops:=[
a3r 50 7,a3r 51 7,a3o 52 false 51,a3e 53 .sub 52 1,a3m 54 1 50 53,a3p 55 54,a3r 56 13,a3r 57 8,a3r 58 12,a3f 59 .sub 57 58,a3f 60 .shl 56 59,a3f 61 .or 55 60,a3m 62 1 50 53,a3w 1 62 61]
def vz:List (Nat×Nat):=[(0,1),(0,2),(0,3),(0,6),(1,6),(2,6),(3,6),(4,6),(5,6),(0,7),(1,7),(2,7),(3,7),(4,7),(5,7),(6,7),(0,8),(1,8),(2,8),(3,8),(4,8),(5,8),(6,8),(7,8),(0,9),(1,9),(2,9),(3,9),(4,9),(5,9),(6,9),(0,10),(1,10),(2,10),(3,10),(4,10),(5,10)]
def rx:ICode:= .region vy vz [2,7,8,10,11,12,23,24,25]
@[go_sem] theorem r_av_14_u:Gu X K s rx vz vy [2,7,8,10,11,12,23,24,25]:=go_regionU' _ _ _ _
def rt:=rg [
a3r 63 11,a3r 64 12,a3f 65 .sub 63 64,a3r 66 8,a3r 67 12,a3f 68 .sub 66 67,a3x 11 65,a3x 8 68] [2,7,8,10,11,23,24,25]
def ly:ICode:=(.seq (.seq au8 (.cond (.t 31) .skip (.exit 2))) (.block 3 (.seq (.seq ab9 (.cond (.t 33) ab8 .skip)) (.seq rz (.seq ry (.seq rx rt))))))
def a1n:=a3k ly.eq_1
def rr:=rg [
a3e 69 .add 25 1,a3r 25 69] [2,7,8,23,24,25]
def tp:ICode:=(.seq avb (.seq (.cond (.t 26) .skip (.exit 0)) (.seq (.block 1 (.seq ava (.seq au9 (.block 2 (.loop ly))))) rr)))
def a1o:=a3k tp.eq_1
def rq:=rg [
a3r 70 7,a3g 71 n_c8 [(.t 70)],a3x 6 71] [6]
def c_av:ICode:=(.seq r_av_0 (.seq r_av_1 (.seq r_av_2 (.cond (.t 21) (.seq r_av_3 .ret) (.seq r_av_4 (.seq (.seq r_av_5 (.block 0 (.loop tp))) (.seq rq .ret)))))))
def i_av:IFunc:=⟨3,[.t 6],c_av⟩
def a_av:Advice:=⟨[15,36],zzz 15 [rt,.ret,.ret,rz,ab8,ab9,au8,au9,ava,avb,r_av_5,r_av_4,.ret,r_av_2,r_av_1,r_av_0]++[(17,[6]),(16,[2,7,8,23,24,25]),(14,[2,7,8,10,11,12,23,24,25]),(13,[2,7,8,10,11,12,13,23,24,25]),(3,[6])],[],[],[],[]⟩
def r_cw_0:=rg [
oo 8 (.asg (.c .nilS))] [0,1,2,3]
def r_cw_1:=rg [
a3r 9 0,oo 10 (.call true n_az [(.t 9)]),a3r 11 1,oo 12 (.bin .shl (.t 11) (.c (.int .u64 6))),a3r 13 2,oo 14 (.bin .shl (.t 13) (.c (.int .u64 1))),a3f 15 .or 12 14,a3r 16 3,a3e 17 .sub 16 1,oo 18 (.bin .shr (.t 17) (.c (.int .u64 8))),a3f 19 .or 15 18,oo 20 (.cvInt .u8 (.t 19)),a3r 21 3,a3e 22 .sub 21 1,oo 23 (.cvInt .u8 (.t 22)),oo 24 (.lit false 1 2 (.int .u8 0) [(0,(.t 20)),(1,(.t 23))]),oo 25 (.append 1 1 (.t 10) (.t 24)),a3x 8 25] [8]
def c_cw:ICode:=(.seq r_cw_0 (.seq r_cw_1 .ret))
def i_cw:IFunc:=⟨4,[.t 8],c_cw⟩
def a_cw:Advice:=⟨[10],zzz 1 [r_cw_1,r_cw_0],[],[],[],[]⟩
def r_bh_0:=rg [
a3d 2 0] [0,2]
def r_bh_1:=rg [
a3r 3 0,oo 4 (.bin .geq (.t 3) (.c (.int .u64 4294967296)))] [0,2,4]
def r_bh_2:=rg [
a3r 5 0,oo 6 (.bin .shr (.t 5) (.c (.int .u64 32))),a3x 0 6] [0]
def r_bh_3:=rg [
a3d 2 32] [0,2]
def r_bh_4:=rg [
a3r 7 0,oo 8 (.bin .geq (.t 7) (.c (.int .u64 65536)))] [0,2,8]
def r_bh_5:=rg [
a3r 9 0,oo 10 (.bin .shr (.t 9) (.c (.int .u64 16))),a3x 0 10] [0,2]
def r_bh_6:=rg [
a3r 11 2,a3e 12 .add 11 16,a3x 2 12] [0,2]
def r_bh_7:=rg [
a3r 13 0,oo 14 (.bin .geq (.t 13) (.c (.int .u64 256)))] [0,2,14]
def r_bh_8:=rg [
a3r 15 0,oo 16 (.bin .shr (.t 15) (.c (.int .u64 8))),a3x 0 16] [0,2]
def r_bh_9:=rg [
a3r 17 2,a3e 18 .add 17 8,a3x 2 18] [0,2]
@[go_sem] def ng:Ops:=[
a3r 19 2,a3r 20 0,oo 21 (.cvInt .u8 (.t 20)),oo 22 (.idxS (.c (.str [0,1,2,2,3,3,3,3,4,4,4,4,4,4,4,4,5,5,5,5,5,5,5,5,5,5,5,5,5,5,5,5,6,6,6,6,6,6,6,6,6,6,6,6,6,6,6,6,6,6,6,6,6,6,6,6,6,6,6,6,6,6,6,6,7,7,7,7,7,7,7,7,7,7,7,7,7,7,7,7,7,7,7,7,7,7,7,7,7,7,7,7,7,7,7,7,7,7,7,7,7,7,7,7,7,7,7,7,7,7,7,7,7,7,7,7,7,7,7,7,7,7,7,7,7,7,7,7,8,8,8,8,8,8,8,8,8,8,8,8,8,8,8,8,8,8,8,8,8,8,8,8,8,8,8,8,8,8,8,8,8,8,8,8,8,8,8,8,8,8,8,8,8,8,8,8,8,8,8,8,8,8,8,8,8,8,8,8,8,8,8,8,8,8,8,8,8,8,8,8,8,8,8,8,8,8,8,8,8,8,8,8,8,8,8,8,8,8,8,8,8,8,8,8,8,8,8,8,8,8,8,8,8,8,8,8,8,8,8,8,8,8,8,8,8,8,8,8,8,8,8,8,8,8,8,8])) (.t 21)),oo 23 (.cvInt .i64 (.t 22)),a3f 24 .add 19 23,a3x 2 24]
def rh:=rg ng [2]
@[go_sem] theorem r_bh_10_u:Gr X K s rh ng [2]:=go_region _ _
def c_bh:ICode:=(.seq r_bh_0 (.seq (.seq r_bh_1 (.cond (.t 4) (.seq r_bh_2 r_bh_3) .skip)) (.seq (.seq r_bh_4 (.cond (.t 8) (.seq r_bh_5 r_bh_6) .skip)) (.seq (.seq r_bh_7 (.cond (.t 14) (.seq r_bh_8 r_bh_9) .skip)) (.seq rh .ret)))))
def i_bh:IFunc:=⟨1,[.t 2],c_bh⟩
def a_bh:=zzy (zzz 9 [r_bh_9,r_bh_8,r_bh_7,r_bh_6,r_bh_5,r_bh_4,r_bh_3,r_bh_2,r_bh_1,r_bh_0]++[(10,[2])])
def r_cx_0:=rg [
a3d 2 0] [0]
def r_cx_1:=rg [
a3r 3 0,a3g 4 n_bh [(.t 3)],a3x 2 4] [2]
def c_cx:ICode:=(.seq r_cx_0 (.seq r_cx_1 .ret))
def i_cx:IFunc:=⟨1,[.t 2],c_cx⟩
def a_cx:=zzy (zzz 1 [r_cx_1,r_cx_0])
def r_cf_0:=rg [
oo 4 (.asg (.c (.int .u64 0)))] [0,1]
def r_cf_1:=rg [
a3r 5 1] [0,5]
def r_cf_2:=rg [
a3r 6 0,a3g 7 n_cy [(.t 6)],a3x 4 7] [4]
def r_cf_3:=rg [
a3r 8 0,oo 9 (.cvInt .u64 (.t 8)),a3x 4 9] [4]
def c_cf:ICode:=(.seq r_cf_0 (.seq r_cf_1 (.cond (.t 5) (.seq r_cf_2 .ret) (.seq r_cf_3 .ret))))
def i_cf:IFunc:=⟨2,[.t 4],c_cf⟩
def a_cf:=zzy (zzz 3 [r_cf_3,r_cf_2,r_cf_1,r_cf_0])
def r_ap_0:=rg [
oo 6 (.asg (.c .nilS)),a3d 7 0] [0,1,2]
def r_ap_1:=rg [
a3r 15 1,a3o 16 false 15,a3e 17 .lss 16 1,a3r 18 17,a3j 19 18 false 1,og 20 18 false (.len false (.t 19)),og 21 18 false (.bin .gtr (.t 20) (ci 512)),a3v 22 18 21,a3r 23 22,a3j 24 23 false 1,a3j 25 23 false 2,og 26 23 false (.call false n_bt [(.t 24),(.t 25)]),a3v 27 23 26] [0,1,2,27]
@[go_sem] def r_ap_2_o:Ops:=[
oo 6 (.asg (.c .nilS)),a3d 7 1]
def r_ap_2:=rg r_ap_2_o [6,7]
def r_ap_3:=rg [
a3r 28 1,a3o 29 false 28,oo 30 (.mkS 1 8 (.int .u64 0) (.t 29) (.t 29)),a3x 8 30] [0,1,2,8]
def r_ap_4:=rg [
a3d 9 0] [0,1,2,8,9]
def r_ap_5:=rg [
a3r 31 1,a3o 32 false 31,oo 33 (.mv (ci 0))] [0,1,2,8,9,31,32,33]
def avo:=rg [
a3f 34 .lss 33 32] [0,1,2,8,9,31,32,33,34]
def avn:=rg [
a3r 35 33,a3m 36 1 31 33,a3p 37 36,a3x 10 35,a3x 11 37] [0,1,2,8,9,10,11,31,32,33]
def avm:=rg [
a3r 38 8,a3r 39 10,a3r 40 11,a3r 41 2,a3g 42 n_cf [(.t 40),(.t 41)],a3m 43 1 38 39,a3w 1 43 42] [0,1,2,8,9,10,31,32,33]
def avl:=rg [
a3r 44 9,a3r 45 8,a3r 46 10,a3m 47 1 45 46,a3p 48 47,a3g 49 n_cx [(.t 48)],oo 50 (.minmax true [(.t 44),(.t 49)]),a3x 9 50] [0,1,2,8,9,31,32,33]
def acl:=rg [
a3e 51 .add 33 1,a3r 33 51] [0,1,2,8,9,31,32,33]
def ae5:ICode:=(.seq avo (.seq (.cond (.t 34) .skip (.exit 0)) (.seq (.block 1 (.seq avn (.seq avm avl))) acl)))
def a1p:=a3k ae5.eq_1
def ack:=rg [
a3r 52 9,a3g 53 n_dj [(.t 52)],a3x 12 53] [0,1,8,12]
def acj:=rg [
a3r 55 12,a3g 56 n_di [(.t 55)],a3r 54 56,a3y 57 54 0,a3y 58 54 1,a3x 13 57,a3x 14 58] [0,1,8,12,13]
def aci:=rg [
a3r 59 0,a3r 60 13,a3r 61 1,a3o 62 false 61,a3g 63 n_cw [(.t 59),(ci 1),(.t 60),(.t 62)],a3r 64 8,a3r 65 12,a3g 66 n_av [(.t 63),(.t 64),(.t 65)],a3x 6 66,a3d 7 0] [6,7]
def c_ap:ICode:=(.seq r_ap_0 (.seq r_ap_1 (.cond (.t 27) (.seq r_ap_2 .ret) (.seq r_ap_3 (.seq r_ap_4 (.seq (.seq r_ap_5 (.block 0 (.loop ae5))) (.seq ack (.seq acj (.seq (.seq (.demote [8]) aci) .ret)))))))))
def i_ap:IFunc:=⟨3,[.t 6,.t 7],c_ap⟩
def a_ap:Advice:=⟨[],zzz 10 [acl,avl,avm,avn,avo,r_ap_5,r_ap_4,r_ap_3,.ret,r_ap_1,r_ap_0]++[(13,[6,7]),(12,[0,1,8,12,13]),(11,[0,1,8,12]),(2,[6,7])],[(13,[8])],[],[],[]⟩
def r_aw_0:=rg [
oo 6 (.asg (.c .nilS))] [0,1,2]
def r_aw_1:=rg [
a3r 18 0,a3r 19 1,a3r 20 2,a3g 21 n_ap [(.t 18),(.t 19),(.t 20)],a3r 17 21,a3y 22 17 0,a3y 23 17 1,a3x 7 22,a3x 8 23] [0,1,2,7]
def r_aw_2:=rg [
a3r 25 1,a3g 26 n_ao [(.t 25)],a3r 24 26,a3y 27 24 0,a3y 28 24 1,a3y 29 24 2,a3x 9 27,a3x 10 28,a3x 11 29] [0,1,2,7,9,10,11]
def r_aw_3:=rg [
a3d 12 1] [0,1,2,7,9,10,11,12]
def r_aw_4:=rg [
a3r 31 10,a3r 32 31,a3j 33 32 true 9,og 34 32 true (.bin .eql (.t 33) (ci 0)),a3u 35 32 34,a3r 36 35,a3j 37 36 true 1,og 38 36 true (.len false (.t 37)),og 39 36 true (.bin .geq (.t 38) (ci 3)),a3u 40 36 39,a3r 41 40,a3j 42 41 true 1,og 43 41 true (.len false (.t 42)),og 44 41 true (.bin .leq (.t 43) (ci 10)),a3u 45 41 44,a3x 30 45] [0,1,2,7,11,12,30]
def r_aw_5:=rg [
a3d 12 0] [0,1,2,7,12]
def r_aw_6:=rg [
a3r 47 11,a3r 48 47,a3j 49 48 true 1,og 50 48 true (.len false (.t 49)),og 51 48 true (.bin .geq (.t 50) (ci 2)),a3u 52 48 51,a3x 46 52] [0,1,2,7,12,46]
def r_aw_7:=rg [
a3d 12 3] [0,1,2,7,12]
def r_aw_8:=rg [
a3r 53 12] [0,1,2,7,53]
def r_aw_9:=rg [
a3e 55 .eql 53 0,a3x 54 55] [0,1,2,7,53,54]
def au7:=rg [
a3e 57 .eql 53 3,a3x 56 57] [0,1,2,7,56]
def au6:=rg [
a3r 59 0,a3r 60 1,oo 61 (.idxA 1 (.t 60) (ci 0)),a3p 62 61,a3r 63 1,a3o 64 false 63,a3r 65 2,a3g 66 n_br [(.t 59),(.t 62),(.t 64),(.t 65)],a3r 58 66,a3y 67 58 0,a3y 68 58 1,a3x 13 67,a3x 14 68] [0,1,2,7,13,14]
def au5:=rg [
a3r 69 14,a3e 70 .eql 69 0,a3r 71 70,a3j 72 71 true 13,og 73 71 true (.len false (.t 72)),a3j 74 71 true 7,og 75 71 true (.len false (.t 74)),og 76 71 true (.bin .lss (.t 73) (.t 75)),a3u 77 71 76] [0,1,2,7,13,77]
def au4:=rg [
a3r 78 13,a3x 7 78] [0,1,2,7]
def ab7:=rg [
a3r 80 0,a3r 81 1,a3r 82 2,a3g 83 n_ae [(.t 80),(.t 81),(.t 82)],a3r 79 83,a3y 84 79 0,a3y 85 79 1,a3x 15 84,a3x 16 85] [7,15,16]
def ab6:=rg [
a3r 86 16,a3e 87 .eql 86 0,a3r 88 87,a3j 89 88 true 15,og 90 88 true (.len false (.t 89)),a3j 91 88 true 7,og 92 88 true (.len false (.t 91)),og 93 88 true (.bin .lss (.t 90) (.t 92)),a3u 94 88 93] [7,15,94]
def ab5:=rg [
a3r 95 15,a3x 7 95] [7]
def ab4:=rg [
a3r 96 7,a3x 6 96] [6]
def c_aw:ICode:=(.seq r_aw_0 (.seq r_aw_1 (.seq r_aw_2 (.seq r_aw_3 (.seq (.block 0 (.seq r_aw_4 (.cond (.t 30) r_aw_5 (.seq r_aw_6 (.cond (.t 46) r_aw_7 .skip))))) (.seq (.seq r_aw_8 (.block 1 (.seq (.block 3 (.seq (.block 2 (.seq (.seq (.seq r_aw_9 (.cond (.t 54) (.exit 2) .skip)) (.seq au7 (.cond (.t 56) (.exit 3) .skip))) (.exit 1))) (.seq au6 (.seq au5 (.cond (.t 77) au4 .skip))))) (.seq (.seq ab7 (.seq ab6 (.cond (.t 94) ab5 .skip))) (.exit 1))))) (.seq ab4 .ret)))))))
def i_aw:IFunc:=⟨3,[.t 6],c_aw⟩
def a_aw:=zzy (zzz 17 [ab4,ab5,ab6,ab7,au4,au5,au6,au7,r_aw_9,r_aw_8,r_aw_7,r_aw_6,r_aw_5,r_aw_4,r_aw_3,r_aw_2,r_aw_1,r_aw_0])
def r_ce_0:=rg [
a3d 4 0,a3c 5 false] [0,1]
def r_ce_1:=rg [
a3r 7 0,a3r 8 1,a3f 9 .sub 7 8,a3x 6 9] [0,1,6]
def r_ce_2:=rg [
a3r 10 6,a3r 11 0,a3f 12 .lss 10 11,a3r 13 1,a3e 14 .gtr 13 0,oo 15 (.eqn true .bool (.t 12) (.t 14)),a3r 16 15,a3j 17 16 true 1,og 18 16 true (.bin .neq (.t 17) (ci 0)),a3u 19 16 18] [6,19]
def r_ce_3:=rg [
a3d 4 0,a3c 5 false] [4,5]
def r_ce_4:=rg [
a3r 20 6,a3x 4 20,a3c 5 true] [4,5]
def c_ce:ICode:=(.seq r_ce_0 (.seq r_ce_1 (.seq r_ce_2 (.cond (.t 19) (.seq r_ce_3 .ret) (.seq r_ce_4 .ret)))))
def i_ce:IFunc:=⟨2,[.t 4,.t 5],c_ce⟩
def a_ce:=zzy (zzz 4 [r_ce_4,r_ce_3,r_ce_2,r_ce_1,r_ce_0])
def r_ck_0:=rg [
a3d 4 0,a3c 5 false] [0,1]
def r_ck_1:=rg [
a3r 9 1,a3r 10 0,a3g 11 n_ce [(.t 9),(.t 10)],a3r 8 11,a3y 12 8 0,a3y 13 8 1,a3x 6 12,a3x 7 13] [6,7]
def r_ck_2:=rg [
a3r 14 6,a3r 15 7,a3r 16 15,a3j 17 16 true 6,og 18 16 true (.bin .geq (.t 17) (ci (-128))),a3u 19 16 18,a3r 20 19,a3j 21 20 true 6,og 22 20 true (.bin .leq (.t 21) (ci 127)),a3u 23 20 22,a3x 4 14,a3x 5 23] [4,5]
def c_ck:ICode:=(.seq r_ck_0 (.seq r_ck_1 (.seq r_ck_2 .ret)))
def i_ck:IFunc:=⟨2,[.t 4,.t 5],c_ck⟩
def a_ck:=zzy (zzz 2 [r_ck_2,r_ck_1,r_ck_0])
def r_bc_0:=rg [
a3d 2 0,a3d 3 0] [0]
def r_bc_1:=rg [
a3r 9 0,a3o 10 false 9,a3e 11 .lss 10 2] [0,11]
def r_bc_2:=rg [
a3r 12 0,a3o 13 false 12,a3x 2 13,a3d 3 0] [2,3]
@[go_sem] def ajr:Ops:=[
a3r 15 0,oo 16 (.idxA 1 (.t 15) (ci 0)),a3p 17 16,a3r 18 0,oo 19 (.idxA 1 (.t 18) (ci 1)),a3p 20 19,a3g 21 n_ck [(.t 17),(.t 20)],a3r 14 21,a3y 22 14 0,a3y 23 14 1,a3x 4 22,a3x 5 23]
def ajs:List (Nat×Nat):=[(0,3),(1,3),(2,3),(0,4),(1,4),(2,4),(0,5),(1,5),(2,5),(8,9),(9,10)]
def r_bc_3:ICode:= .region ajr ajs [0,4,5]
@[go_sem] theorem r_bc_3_u:Gu X K s r_bc_3 ajs ajr [0,4,5]:=go_regionU' _ _ _ _
def r_bc_4:=rg [
a3r 24 5,a3t 25 24] [0,4,25]
def r_bc_5:=rg [
a3d 2 1,a3d 3 0] [2,3]
def r_bc_6:=rg [
a3d 6 2] [0,4,6]
def aus:=rg [
a3r 26 6,a3r 27 0,a3o 28 false 27,a3f 29 .lss 26 28] [0,4,6,29]
@[go_sem] def ajl:Ops:=[
a3r 31 0,a3r 32 6,a3e 33 .sub 32 1,a3m 34 1 31 33,a3p 35 34,a3r 36 0,a3r 37 6,a3m 38 1 36 37,a3p 39 38,a3g 40 n_ck [(.t 35),(.t 39)],a3r 30 40,a3y 41 30 0,a3y 42 30 1,a3x 7 41,a3x 8 42]
def ajm:List (Nat×Nat):=[(0,1),(0,2),(0,5),(1,5),(2,5),(3,5),(4,5),(0,6),(1,6),(2,6),(3,6),(4,6),(5,6),(0,7),(1,7),(2,7),(3,7),(4,7),(0,8),(1,8),(2,8),(3,8),(4,8),(11,12),(12,13)]
def aur:ICode:= .region ajl ajm [0,4,6,7,8]
@[go_sem] theorem r_bc_8_u:Gu X K s aur ajm ajl [0,4,6,7,8]:=go_regionU' _ _ _ _
def auq:=rg [
a3r 43 8,a3t 44 43,a3r 45 44,a3j 46 45 false 7,a3j 47 45 false 4,og 48 45 false (.bin .neq (.t 46) (.t 47)),a3v 49 45 48] [0,4,6,49]
def ab0:=rg [
a3r 50 6,a3e 51 .add 50 1,a3x 6 51] [0,4,6]
def ae3:ICode:=(.seq (.seq aus (.cond (.t 29) .skip (.exit 0))) (.block 1 (.seq aur (.seq (.seq auq (.cond (.t 49) (.exit 0) .skip)) ab0))))
def a1q:=a3k ae3.eq_1
def abz:=rg [
a3r 52 6,a3r 53 4,a3x 2 52,a3x 3 53] [2,3]
def c_bc:ICode:=(.seq r_bc_0 (.seq r_bc_1 (.cond (.t 11) (.seq r_bc_2 .ret) (.seq r_bc_3 (.seq r_bc_4 (.cond (.t 25) (.seq r_bc_5 .ret) (.seq r_bc_6 (.seq (.block 0 (.loop ae3)) (.seq abz .ret)))))))))
def i_bc:IFunc:=⟨1,[.t 2,.t 3],c_bc⟩
def a_bc:=zzy (zzz 10 [ab0,auq,.ret,aus,r_bc_6,r_bc_5,r_bc_4,.ret,r_bc_2,r_bc_1,r_bc_0]++[(11,[2,3]),(8,[0,4,6,7,8]),(3,[0,4,5])])
def r_bq_0:=rg [
oo 4 (.asg (.c .nilS))] [0,1]
def r_bq_1:=rg [
a3r 6 0,oo 7 (.call true n_az [(.t 6)]),a3x 5 7] [1,5]
def at8:=rg [
a3r 8 1,oo 9 (.bin .geq (.t 8) (.c (.int .u64 128)))] [1,5,9]
def at7:=rg [
a3r 10 5,a3r 11 1,oo 12 (.cvInt .u8 (.t 11)),oo 13 (.bin .or (.t 12) (.c (.int .u8 128))),oo 14 (.lit false 1 1 (.int .u8 0) [(0,(.t 13))]),oo 15 (.append 1 1 (.t 10) (.t 14)),a3x 5 15] [1,5]
def at6:=rg [
a3r 16 1,oo 17 (.bin .shr (.t 16) (.c (.int .u64 7))),a3x 1 17] [1,5]
def az6:ICode:=(.seq (.seq at8 (.cond (.t 9) .skip (.exit 0))) (.block 1 (.seq at7 at6)))
def a1r:=a3k az6.eq_1
def at5:=rg [
a3r 18 5,a3r 19 1,oo 20 (.cvInt .u8 (.t 19)),oo 21 (.lit false 1 1 (.int .u8 0) [(0,(.t 20))]),oo 22 (.append 1 1 (.t 18) (.t 21)),a3g 23 n_c8 [(.t 22)],a3x 4 23] [4]
def c_bq:ICode:=(.seq r_bq_0 (.seq r_bq_1 (.seq (.block 0 (.loop az6)) (.seq at5 .ret))))
def i_bq:IFunc:=⟨2,[.t 4],c_bq⟩
def a_bq:Advice:=⟨[7,15],zzz 4 [at6,at7,at8,r_bq_1,r_bq_0]++[(5,[4])],[],[],[],[]⟩
def r_cy_0:=rg [
oo 2 (.asg (.c (.int .u64 0)))] [0]
def r_cy_1:=rg [
a3r 3 0,oo 4 (.cvInt .u64 (.t 3)),oo 5 (.bin .shl (.t 4) (.c (.int .u64 1))),a3r 6 0,oo 7 (.bin .shr (.t 6) (.c (.int .u64 63))),oo 8 (.cvInt .u64 (.t 7)),a3f 9 .xor 5 8,a3x 2 9] [2]
def c_cy:ICode:=(.seq r_cy_0 (.seq r_cy_1 .ret))
def i_cy:IFunc:=⟨1,[.t 2],c_cy⟩
def a_cy:=zzy (zzz 1 [r_cy_1,r_cy_0])
def r_b9_0:=rg [
oo 6 (.asg (.c .nilS))] [0,1,2]
def r_b9_1:=rg [
a3r 7 2] [0,1,7]
def r_b9_2:=rg [
a3r 8 0,a3r 9 1,a3g 10 n_cy [(.t 9)],oo 11 (.call true n_bq [(.t 8),(.t 10)]),a3x 6 11] [6]
def r_b9_3:=rg [
a3r 12 0,a3r 13 1,oo 14 (.cvInt .u64 (.t 13)),oo 15 (.call true n_bq [(.t 12),(.t 14)]),a3x 6 15] [6]
def c_b9:ICode:=(.seq r_b9_0 (.seq r_b9_1 (.cond (.t 7) (.seq r_b9_2 .ret) (.seq r_b9_3 .ret))))
def i_b9:IFunc:=⟨3,[.t 6],c_b9⟩
def a_b9:Advice:=⟨[11,15],zzz 3 [r_b9_3,r_b9_2,r_b9_1,r_b9_0],[],[],[],[]⟩
def r_au_0:=rg [
a3p 6 0,a3g 7 n_cr [(.t 6),(ci 128)]] [0,1,2,7]
def avi:=rg [
a3x 3 8] [1,2,3]
def a0c:ICode:=avi
def a1s:=a3k a0c.eq_1
def avh:=rg [
a3p 9 1,a3r 10 3,a3o 11 false 10,oo 12 (.bin .sub (ci 256) (.t 11)),oo 13 (.cvInt .u8 (.t 12)),oo 14 (.lit false 1 1 (.int .u8 0) [(0,(.t 13))]),oo 15 (.append 1 1 (.t 9) (.t 14)),a3w 1 1 15] [1,2,3]
def avg:=rg [
a3r 16 3,a3o 17 false 16,oo 18 (.mv (ci 0))] [1,2,16,17,18]
def avf:=rg [
a3f 19 .lss 18 17] [1,2,16,17,18,19]
def ave:=rg [
a3m 20 1 16 18,a3p 21 20,a3x 5 21] [1,2,5,16,17,18]
def avd:=rg [
a3p 22 1,a3r 23 5,a3p 24 2,oo 25 (.call true n_b9 [(.t 22),(.t 23),(.t 24)]),a3w 1 1 25] [1,2,16,17,18]
def avc:=rg [
a3e 26 .add 18 1,a3r 18 26] [1,2,16,17,18]
def aqb:ICode:=(.seq avf (.seq (.cond (.t 19) .skip (.exit 2)) (.seq (.block 3 (.seq ave avd)) avc)))
def a1t:=a3k aqb.eq_1
def ae4:ICode:=(.block 1 (.seq avh (.seq avg (.block 2 (.loop aqb)))))
def a1u:=a3k ae4.eq_1
def aca:=rg [
ow (.store 1 (.t 0) (.c .nilS))] []
def c_au:ICode:=(.seq (.seq (.seq (.give [0]) r_au_0) (.block 0 (.each (.t 7) [8] a0c ae4))) aca)
def i_au:IFunc:=⟨3,[],c_au⟩
def a_au:Advice:=⟨[15,25],a3n [(7,avd),(1,avi),(0,r_au_0)]++[(8,[]),(6,[1,2,16,17,18]),(5,[1,2,5,16,17,18]),(4,[1,2,16,17,18,19]),(3,[1,2,16,17,18]),(2,[1,2,3])],[],[],[],[(0,[0])]⟩
def r_bx_0:=rg [
a3c 2 false] [0]
def r_bx_1:=rg [
a3r 3 0,a3e 4 .lss 3 0,a3x 2 4] [2]
def c_bx:ICode:=(.seq r_bx_0 (.seq r_bx_1 .ret))
def i_bx:IFunc:=⟨1,[.t 2],c_bx⟩
def a_bx:=zzy (zzz 1 [r_bx_1,r_bx_0])
def r_ab_0:=rg [
oo 3 (.box 1 (.t 1)),oo 4 (.asg (.c .nilS)),a3d 5 0] [0,3]
def r_bx:=rg [
a3p 14 3,a3t 15 14,a3r 16 15,a3j 17 16 true 0,og 18 16 true (.call false n_ba [(.t 17),(.c (.fn n_bx))]),a3u 19 16 18,a3x 13 19] [0,3,13]
@[go_sem] def r_au_o:Ops:=[
oo 4 (.asg (.c .nilS)),a3d 5 1]
def r_au:=rg r_au_o [4,5]
def r_ab_3:=rg [
a3r 21 0,a3o 22 false 21,a3e 23 .gtr 22 16384,a3x 20 23] [0,3,20]
@[go_sem] def r_ab_4_o:Ops:=[
oo 4 (.asg (.c .nilS)),a3d 5 4]
def r_ab_4:=rg r_ab_4_o [4,5]
def r_ab_5:=rg [
oo 6 (.alloc [.nilS])] [0,3,6]
def r_ab_6:=rg [
oo 7 (.alloc [.nilS])] [0,3,6,7]
def r_ab_7:=rg [
oo 24 (.mkF n_au [] [(.t 7),(.t 6),(.t 3)]),a3x 8 24] [0,3,6,7,8]
def r_ab_8:=rg [
a3d 9 0] [0,3,6,7,8,9]
def axy:=rg [
a3r 25 9,a3r 26 0,a3o 27 false 26,a3f 28 .lss 25 27] [0,3,6,7,8,9,28]
def ado:=rg [
a3r 30 0,a3r 31 9,oo 32 (.slice 1 (.t 30) (some (.t 31)) none none),a3g 33 n_bc [(.t 32)],a3r 29 33,a3y 34 29 0,a3y 35 29 1,a3x 10 34,a3x 11 35] [0,3,6,7,8,9,10,11]
def adn:=rg [
a3r 36 10,a3e 37 .lss 36 3] [0,3,6,7,8,9,10,11,37]
@[go_sem] def zj:Ops:=[
a3p 38 7,a3r 39 0,a3r 40 9,a3m 41 1 39 40,a3p 42 41,oo 43 (.lit false 1 1 (.int .i64 0) [(0,(.t 42))]),oo 44 (.append 1 8 (.t 38) (.t 43)),a3w 1 7 44]
def zk:List (Nat×Nat):=[(0,1),(0,2),(1,2),(0,3),(0,4),(0,5)]
def adm:ICode:= .region zj zk [0,3,6,7,8,9]
@[go_sem] theorem r_ab_12_u:Gu X K s adm zk zj [0,3,6,7,8,9]:=go_regionU' _ _ _ _
def adl:=rg [
a3r 45 9,a3e 46 .add 45 1,a3x 9 46] [0,3,6,7,8,9]
def adk:=rg [
a3r 47 8,oo 48 (.callv false (.t 47) [])] [0,3,6,7,8,9,10,11]
def adj:=rg [
a3r 49 10,a3e 50 .geq 49 3] [0,3,6,7,8,9,10,11,50]
def adi:=rg [
a3r 51 10,oo 52 (.minmax false [(.t 51),(ci 130)]),a3x 12 52] [0,3,6,7,8,9,10,11,12]
def adh:=rg [
a3r 53 10,a3r 54 12,a3f 55 .sub 53 54,a3e 56 .gtr 55 0,a3r 57 56,a3j 58 57 true 10,a3j 59 57 true 12,og 60 57 true (.bin .sub (.t 58) (.t 59)),og 61 57 true (.bin .lss (.t 60) (ci 3)),a3u 62 57 61] [0,3,6,7,8,9,10,11,12,62]
def adg:=rg [
a3r 63 10,a3e 64 .sub 63 3,a3x 12 64] [0,3,6,7,8,9,10,11,12]
@[go_sem] def y8:Ops:=[
a3p 65 6,a3r 66 12,a3e 67 .sub 66 3,oo 68 (.cvInt .u8 (.t 67)),a3r 69 11,oo 70 (.cvInt .u8 (.t 69)),oo 71 (.lit false 1 2 (.int .u8 0) [(0,(.t 68)),(1,(.t 70))]),oo 72 (.append 1 1 (.t 65) (.t 71)),a3r 73 0,a3r 74 9,a3m 75 1 73 74,a3p 76 75,a3p 77 3,oo 78 (.call true n_b9 [(.t 72),(.t 76),(.t 77)]),a3w 1 6 78]
def y9:List (Nat×Nat):=[(0,1),(0,2),(0,3),(0,4),(1,4),(2,4),(3,4),(0,5),(1,5),(2,5),(3,5),(0,6),(0,8),(1,8),(2,8),(3,8),(4,8),(5,8),(6,8),(7,8),(0,9),(1,9),(2,9),(3,9),(4,9),(5,9),(6,9),(7,9),(8,9),(0,10),(1,10),(2,10),(3,10),(4,10),(5,10),(6,10),(7,10),(0,11),(1,11),(2,11),(3,11),(4,11),(5,11),(6,11),(7,11),(0,12),(1,12),(2,12),(3,12),(4,12),(5,12),(6,12),(7,12),(8,12),(9,12),(10,12),(11,12)]
def adf:ICode:= .region y8 y9 [0,3,6,7,8,9,10,11,12]
@[go_sem] theorem r_ab_19_u:Gu X K s adf y9 y8 [0,3,6,7,8,9,10,11,12]:=go_regionU' _ _ _ _
def ade:=rg [
a3r 79 9,a3r 80 12,a3f 81 .add 79 80,a3r 82 10,a3r 83 12,a3f 84 .sub 82 83,a3x 9 81,a3x 10 84] [0,3,6,7,8,9,10,11]
def tu:ICode:=(.seq (.seq adj (.cond (.t 50) .skip (.exit 3))) (.block 4 (.seq adi (.seq (.seq adh (.cond (.t 62) adg .skip)) (.seq adf ade)))))
def a1v:=a3k tu.eq_1
def tr:ICode:=(.seq (.seq axy (.cond (.t 28) .skip (.exit 1))) (.block 2 (.seq ado (.seq (.seq adn (.cond (.t 37) (.seq adm (.seq adl (.exit 2))) .skip)) (.seq adk (.block 3 (.loop tu)))))))
def a1w:=a3k tr.eq_1
def si:=rg [
a3r 85 8,oo 86 (.callv false (.t 85) [])] [6]
def se:=rg [
a3p 87 6,a3g 88 n_c8 [(.t 87)],a3x 4 88,a3d 5 0] [4,5]
def c_ab:ICode:=(.seq r_ab_0 (.seq (.block 0 (.seq r_bx (.cond (.t 13) (.seq r_au .ret) (.seq r_ab_3 (.cond (.t 20) (.seq r_ab_4 .ret) .skip))))) (.seq r_ab_5 (.seq r_ab_6 (.seq r_ab_7 (.seq (.seq r_ab_8 (.block 1 (.loop tr))) (.seq si (.seq se .ret))))))))
def i_ab:IFunc:=⟨2,[.t 4,.t 5],c_ab⟩
def a_ab:Advice:=⟨[44,78],zzz 20 [ade,.ret,adg,adh,adi,adj,adk,adl,.ret,adn,ado,axy,r_ab_8,r_ab_7,r_ab_6,r_ab_5,.ret,r_ab_3,.ret,.ret,r_ab_0]++[(22,[4,5]),(21,[6]),(19,[0,3,6,7,8,9,10,11,12]),(12,[0,3,6,7,8,9]),(2,[4,5]),(4,[4,5]),(1,[0,3,13])],[],[],[],[]⟩
def r_b8_0:=rg [
a3c 2 false] [0]
def r_b8_1:=rg [
a3r 3 0,a3e 4 .lss 3 0,a3x 2 4] [2]
def c_b8:ICode:=(.seq r_b8_0 (.seq r_b8_1 .ret))
def i_b8:IFunc:=⟨1,[.t 2],c_b8⟩
def a_b8:=zzy (zzz 1 [r_b8_1,r_b8_0])
def r_ag_0:=rg [
a3d 4 0] [0,1]
def r_ag_1:=rg [
a3r 6 0,a3o 7 false 6,oo 8 (.mv (ci 0))] [0,1,7,8]
def awr:=rg [
a3f 9 .lss 8 7] [0,1,7,8,9]
def awq:=rg [
a3r 10 8,a3x 5 10] [0,1,5,7,8]
def awp:=rg [
a3r 11 1,a3r 12 0,a3r 13 5,a3m 14 1 12 13,a3p 15 14,oo 16 (.callv false (.t 11) [(.t 15)])] [0,1,5,7,8,16]
@[go_sem] def r_ag_5_o:Ops:=[
a3r 17 5,a3x 4 17]
def r_ag_5:=rg r_ag_5_o [4]
def awo:=rg [
a3e 18 .add 8 1,a3r 8 18] [0,1,7,8]
def a0h:ICode:=(.seq awr (.seq (.cond (.t 9) .skip (.exit 0)) (.seq (.block 1 (.seq awq (.seq awp (.cond (.t 16) (.seq r_ag_5 .ret) .skip)))) awo)))
def a1x:=a3k a0h.eq_1
def awn:=rg [
oo 4 (.asg (ci (-1)))] [4]
def c_ag:ICode:=(.seq r_ag_0 (.seq (.seq r_ag_1 (.block 0 (.loop a0h))) (.seq awn .ret)))
def i_ag:IFunc:=⟨2,[.t 4],c_ag⟩
def a_ag:=zzy (zzz 6 [awo,.ret,awp,awq,awr,r_ag_1,r_ag_0]++[(7,[4]),(5,[4])])
def r_ba_0:=rg [
a3c 4 false] [0,1]
def r_ba_1:=rg [
a3r 5 0,a3r 6 1,a3g 7 n_ag [(.t 5),(.t 6)],a3e 8 .geq 7 0,a3x 4 8] [4]
def c_ba:ICode:=(.seq r_ba_0 (.seq r_ba_1 .ret))
def i_ba:IFunc:=⟨2,[.t 4],c_ba⟩
def a_ba:=zzy (zzz 1 [r_ba_1,r_ba_0])
def r_bt_0:=rg [
a3c 4 false] [0,1]
def r_b8:=rg [
a3r 5 1,a3t 6 5,a3r 7 6,a3j 8 7 true 0,og 9 7 true (.call false n_ba [(.t 8),(.c (.fn n_b8))]),a3u 10 7 9,a3x 4 10] [4]
def c_bt:ICode:=(.seq r_bt_0 (.seq r_b8 .ret))
def i_bt:IFunc:=⟨2,[.t 4],c_bt⟩
def a_bt:=zzy (zzz 0 [r_bt_0]++[(1,[4])])
def r_aq_0:=rg [
oo 4 (.box 1 (.t 1)),oo 6 (.asg (.c .nilS)),a3d 7 0] [0,2,4]
def r_aq_1:=rg [
a3r 13 2,a3e 14 .neq 13 1,a3r 15 14,a3j 16 15 true 2,og 17 15 true (.bin .neq (.t 16) (ci 2)),a3u 18 15 17,a3r 19 18,a3j 20 19 false 0,og 21 19 false (.load none (.t 4)),og 22 19 false (.call false n_bt [(.t 20),(.t 21)]),a3v 23 19 22,a3x 12 23] [0,2,4,12]
@[go_sem] def r_aq_2_o:Ops:=[
oo 6 (.asg (.c .nilS)),a3d 7 1]
def r_aq_2:=rg r_aq_2_o [6,7]
def r_aq_3:=rg [
a3r 25 0,a3o 26 false 25,a3e 27 .gtr 26 16384,a3x 24 27] [0,2,4,24]
@[go_sem] def r_aq_4_o:Ops:=[
oo 6 (.asg (.c .nilS)),a3d 7 4]
def r_aq_4:=rg r_aq_4_o [6,7]
def r_aq_5:=rg [
a3r 29 2,a3e 30 .eql 29 1,a3x 28 30] [0,4,28]
def r_aq_6:=rg [
a3r 31 0,a3p 32 4,a3g 33 n_ab [(.t 31),(.t 32)],a3y 34 33 0,a3y 35 33 1,a3x 6 34,a3x 7 35] [6,7]
def r_aq_7:=rg [
oo 8 (.alloc [.nilS])] [0,4,8]
def r_aq_8:=rg [
a3r 36 0,a3g 37 n_cr [(.t 36),(ci 512)]] [4,8,37]
def avj:=rg [
a3x 9 38] [4,8,9]
def a0e:ICode:=avj
def a1y:=a3k a0e.eq_1
def ach:=rg [
oo 10 (.asg (.c .nilS))] [4,8,9]
def acg:=rg [
a3r 39 9,a3p 40 4,a3g 41 n_aw [(.c .nilS),(.t 39),(.t 40)],a3x 10 41] [4,8,9,10]
def acf:=rg [
a3r 42 9,a3p 43 4,a3g 44 n_aj [(.t 42),(.t 43)],a3x 11 44] [8,10,11]
def ace:=rg [
a3r 45 11,a3o 46 false 45,a3r 47 10,a3o 48 false 47,a3f 49 .lss 46 48] [8,10,11,49]
def acd:=rg [
a3r 50 11,a3x 10 50] [8,10]
def acb:=rg [
a3p 51 8,a3r 52 10,oo 53 (.append 1 1 (.t 51) (.t 52)),a3w 1 8 53] []
def a0d:ICode:=(.block 2 (.seq ach (.seq acg (.seq (.seq acf (.seq ace (.cond (.t 49) acd .skip))) acb))))
def a1z:=a3k a0d.eq_1
def avk:=rg [
a3p 54 8,a3g 55 n_c8 [(.t 54)],a3x 6 55,a3d 7 0] [6,7]
def c_aq:ICode:=(.seq r_aq_0 (.seq (.block 0 (.seq r_aq_1 (.cond (.t 12) (.seq r_aq_2 .ret) (.seq r_aq_3 (.cond (.t 24) (.seq r_aq_4 .ret) (.seq r_aq_5 (.cond (.t 28) (.seq r_aq_6 .ret) .skip))))))) (.seq r_aq_7 (.seq (.seq r_aq_8 (.block 1 (.each (.t 37) [38] a0e a0d))) (.seq avk .ret)))))
def i_aq:IFunc:=⟨3,[.t 6,.t 7],c_aq⟩
def a_aq:Advice:=⟨[53],zzz 9 [avj,r_aq_8,r_aq_7,r_aq_6,r_aq_5,.ret,r_aq_3,.ret,r_aq_1,r_aq_0]++[(16,[6,7]),(15,[]),(14,[8,10]),(13,[8,10,11,49]),(12,[8,10,11]),(11,[4,8,9,10]),(10,[4,8,9]),(2,[6,7]),(4,[6,7])],[],[],[],[]⟩
def r_bk_0:=rg [
a3r 11 2,a3r 12 3,a3r 13 0,a3s 14 13,a3h 15 1 14,a3h 16 2 15,a3p 17 16,a3g 18 n_aq [(.t 11),(.t 12),(.t 17)],a3r 10 18,a3y 19 10 0,a3y 20 10 1,a3x 8 19,a3x 9 20] [0,1,8,9]
def r_bk_1:=rg [
a3r 21 9,a3e 22 .neq 21 0,a3r 23 22,a3j 24 23 true 0,og 25 23 true (.nilck (.t 24)),og 26 23 true (.fieldA 10 (.t 25)),og 27 23 true (.load none (.t 26)),og 28 23 true (.bin .eql (.t 27) (ci 0)),a3u 29 23 28] [0,1,8,9,29]
@[go_sem] def r_bk_2_o:Ops:=[
a3r 30 0,a3r 31 9,a3s 32 30,a3h 33 10 32,a3w 1 33 31]
def r_bk_2:=rg r_bk_2_o [0,1,8]
def r_bk_3:=rg [
a3r 34 0,a3s 35 34,a3h 36 1 35,a3h 37 2 36,a3p 38 37,a3e 39 .eql 38 2] [0,1,8,39]
def r_bk_4:=rg [
a3r 40 0,a3s 41 40,a3h 42 7 41,a3h 43 0 42,a3p 44 43,a3e 45 .or 44 2,a3s 46 40,a3h 47 7 46,a3h 48 0 47,a3w 1 48 45] [0,1,8]
def r_bk_5:=rg [
a3r 49 0,a3r 50 1,a3r 51 8,a3g 52 n_bn [(.t 49),(.t 50),(.t 51)]] []
def c_bk:ICode:=(.seq r_bk_0 (.seq (.seq r_bk_1 (.cond (.t 29) r_bk_2 .skip)) (.seq (.seq r_bk_3 (.cond (.t 39) r_bk_4 .skip)) r_bk_5)))
def i_bk:IFunc:=⟨4,[],c_bk⟩
def a_bk:=zzy (zzz 5 [r_bk_5,r_bk_4,r_bk_3,.ret,r_bk_1,r_bk_0]++[(2,[0,1,8])])
def r_b7_0:=rg [
a3d 2 0] [0]
def r_b7_1:=rg [
a3r 3 0,a3e 4 .sub 3 1420070400,a3x 2 4] [2]
def c_b7:ICode:=(.seq r_b7_0 (.seq r_b7_1 .ret))
def i_b7:IFunc:=⟨1,[.t 2],c_b7⟩
def a_b7:=zzy (zzz 1 [r_b7_1,r_b7_0])
def r_ay_0:=rg [
oo 4 (.asg (.c .nilS))] [0,1]
def r_ay_1:=rg [
a3r 8 0,a3o 9 false 8,oo 10 (.mkS 1 8 (.int .i64 0) (.t 9) (.t 9)),a3x 5 10] [0,1,5]
def r_ay_2:=rg [
a3r 11 0,a3o 12 false 11,oo 13 (.mv (ci 0))] [1,5,11,12,13]
def aux:=rg [
a3f 14 .lss 13 12] [1,5,11,12,13,14]
def auw:=rg [
a3r 15 13,a3m 16 1 11 13,a3p 17 16,a3x 6 15,a3x 7 17] [1,5,6,7,11,12,13]
def auv:=rg [
a3r 18 5,a3r 19 6,a3r 20 1,a3r 21 7,oo 22 (.callv false (.t 20) [(.t 21)]),a3m 23 1 18 19,a3w 1 23 22] [1,5,11,12,13]
def auu:=rg [
a3e 24 .add 13 1,a3r 13 24] [1,5,11,12,13]
def a0b:ICode:=(.seq aux (.seq (.cond (.t 14) .skip (.exit 0)) (.seq (.block 1 (.seq auw auv)) auu)))
def a10:=a3k a0b.eq_1
def aut:=rg [
a3r 25 5,a3x 4 25] [4]
def c_ay:ICode:=(.seq r_ay_0 (.seq r_ay_1 (.seq (.seq r_ay_2 (.block 0 (.loop a0b))) (.seq aut .ret))))
def i_ay:IFunc:=⟨2,[.t 4],c_ay⟩
def a_ay:=zzy (zzz 6 [auu,auv,auw,aux,r_ay_2,r_ay_1,r_ay_0]++[(7,[4])])
def r_b6_0:=rg [
oo 4 (.asg (.c .nilS))] [0,1]
def r_b6_1:=rg [
a3r 6 0,oo 7 (.bin .shl (.t 6) (.c (.int .u64 1))),a3x 5 7] [1,5]
def r_b6_2:=rg [
a3r 8 1] [5,8]
def r_b6_3:=rg [
a3r 9 5,a3e 10 .or 9 1,a3x 5 10] [5]
def r_b6_4:=rg [
a3r 11 5,oo 12 (.cvInt .u8 (.t 11)),a3r 13 5,oo 14 (.bin .shr (.t 13) (.c (.int .u64 8))),oo 15 (.cvInt .u8 (.t 14)),a3r 16 5,oo 17 (.bin .shr (.t 16) (.c (.int .u64 16))),oo 18 (.cvInt .u8 (.t 17)),oo 19 (.lit false 1 3 (.int .u8 0) [(0,(.t 12)),(1,(.t 15)),(2,(.t 18))]),a3x 4 19] [4]
def c_b6:ICode:=(.seq r_b6_0 (.seq r_b6_1 (.seq (.seq r_b6_2 (.cond (.t 8) r_b6_3 .skip)) (.seq r_b6_4 .ret))))
def i_b6:IFunc:=⟨2,[.t 4],c_b6⟩
def a_b6:=zzy (zzz 4 [r_b6_4,r_b6_3,r_b6_2,r_b6_1,r_b6_0])
def r_bw_0:=rg [
oo 4 (.asg (.c .nilS))] [0,1]
def r_bw_1:=rg [
a3r 5 1,a3e 6 .lss 5 15] [0,1,6]
def r_bw_2:=rg [
a3r 7 0,a3x 4 7] [4]
def r_bw_3:=rg [
a3r 8 1,a3e 9 .sub 8 15,a3x 1 9] [0,1]
def atu:=rg [
a3r 10 1,a3e 11 .geq 10 255] [0,1,11]
def att:=rg [
a3r 14 0,oo 15 (.lit false 1 1 (.int .u8 0) [(0,(.c (.int .u8 255)))]),oo 16 (.append 1 1 (.t 14) (.t 15)),a3x 0 16] [0,1]
def ats:=rg [
a3r 12 1,a3e 13 .sub 12 255,a3x 1 13] [0,1]
def az4:ICode:=(.seq (.seq atu (.cond (.t 11) .skip (.exit 0))) (.seq (.block 1 att) ats))
def a11:=a3k az4.eq_1
def atr:=rg [
a3r 17 0,a3r 18 1,oo 19 (.cvInt .u8 (.t 18)),oo 20 (.lit false 1 1 (.int .u8 0) [(0,(.t 19))]),oo 21 (.append 1 1 (.t 17) (.t 20)),a3x 4 21] [4]
def c_bw:ICode:=(.seq r_bw_0 (.seq r_bw_1 (.cond (.t 6) (.seq r_bw_2 .ret) (.seq (.seq r_bw_3 (.block 0 (.loop az4))) (.seq atr .ret)))))
def i_bw:IFunc:=⟨2,[.t 4],c_bw⟩
def a_bw:Advice:=⟨[16],zzz 6 [ats,att,atu,r_bw_3,r_bw_2,r_bw_1,r_bw_0]++[(7,[4])],[],[],[],[]⟩
def r_bv_0:=rg [
oo 8 (.asg (.c .nilS))] [0,1,2,3]
def r_bv_1:=rg [
a3d 9 0] [0,1,2,3,9]
def r_bv_2:=rg [
a3r 10 3,a3e 11 .gtr 10 0] [0,1,2,3,9,11]
def r_bv_3:=rg [
a3r 12 3,a3e 13 .sub 12 4,oo 14 (.minmax false [(.t 13),(ci 15)]),a3x 9 14] [0,1,2,3,9]
def r_bv_4:=rg [
a3r 15 0,a3r 16 1,a3o 17 false 16,oo 18 (.minmax false [(.t 17),(ci 15)]),oo 19 (.bin .shl (.t 18) (.c (.int .u64 4))),a3r 20 9,a3f 21 .or 19 20,oo 22 (.cvInt .u8 (.t 21)),oo 23 (.lit false 1 1 (.int .u8 0) [(0,(.t 22))]),oo 24 (.append 1 1 (.t 15) (.t 23)),a3x 0 24] [0,1,2,3]
def r_bv_5:=rg [
a3r 25 0,a3r 26 1,a3o 27 false 26,oo 28 (.callg true n_bw [(.t 25),(.t 27)] 0),a3x 0 28] [0,1,2,3]
def r_bv_6:=rg [
a3r 29 0,a3r 30 1,oo 31 (.append 1 1 (.t 29) (.t 30)),a3x 0 31] [0,2,3]
def r_bv_7:=rg [
a3r 32 3,a3e 33 .eql 32 0] [0,2,3,33]
def r_bv_8:=rg [
a3r 34 0,a3x 8 34] [8]
def r_bv_9:=rg [
a3r 35 0,a3r 36 2,oo 37 (.cvInt .u8 (.t 36)),a3r 38 2,oo 39 (.bin .shr (.t 38) (.c (.int .u64 8))),oo 40 (.cvInt .u8 (.t 39)),oo 41 (.lit false 1 2 (.int .u8 0) [(0,(.t 37)),(1,(.t 40))]),oo 42 (.append 1 1 (.t 35) (.t 41)),a3r 43 3,a3e 44 .sub 43 4,oo 45 (.callg true n_bw [(.t 42),(.t 44)] 0),a3x 8 45] [8]
def c_bv:ICode:=(.seq r_bv_0 (.seq r_bv_1 (.seq (.seq r_bv_2 (.cond (.t 11) r_bv_3 .skip)) (.seq r_bv_4 (.seq r_bv_5 (.seq r_bv_6 (.seq r_bv_7 (.cond (.t 33) (.seq r_bv_8 .ret) (.seq r_bv_9 .ret)))))))))
def i_bv:IFunc:=⟨4,[.t 8],c_bv⟩
def a_bv:Advice:=⟨[24,28,31,42,45],zzz 9 [r_bv_9,r_bv_8,r_bv_7,r_bv_6,r_bv_5,r_bv_4,r_bv_3,r_bv_2,r_bv_1,r_bv_0],[],[],[(28,0),(45,0)],[]⟩
def r_ah_0:=rg [
a3c 4 false] [0,1]
def r_ah_1:=rg [
a3r 6 0,a3o 7 false 6,a3r 8 1,a3o 9 false 8,a3f 10 .neq 7 9] [0,1,10]
@[go_sem] def r_ah_2_o:Ops:=[
a3c 4 false]
def r_ah_2:=rg r_ah_2_o [4]
def r_ah_3:=rg [
a3r 11 0,a3o 12 false 11,oo 13 (.mv (ci 0))] [0,1,12,13]
def awm:=rg [
a3f 14 .lss 13 12] [0,1,12,13,14]
def awl:=rg [
a3r 15 13,a3x 5 15] [0,1,5,12,13]
@[go_sem] def ant:Ops:=[
a3r 16 0,a3r 17 5,a3m 18 1 16 17,a3p 19 18,a3r 20 1,a3r 21 5,a3m 22 1 20 21,a3p 23 22,a3f 24 .neq 19 23]
def anu:List (Nat×Nat):=[(0,1),(0,4),(1,4),(2,4),(3,4),(0,5),(1,5),(2,5),(3,5),(4,5),(0,6),(1,6),(2,6),(3,6),(0,7),(1,7),(2,7),(3,7)]
def awk:ICode:= .region ant anu [0,1,12,13,24]
@[go_sem] theorem r_ah_6_u:Gu X K s awk anu ant [0,1,12,13,24]:=go_regionU' _ _ _ _
def awj:=rg [
a3c 4 false] [4]
def awi:=rg [
a3e 25 .add 13 1,a3r 13 25] [0,1,12,13]
def a0g:ICode:=(.seq awm (.seq (.cond (.t 14) .skip (.exit 0)) (.seq (.block 1 (.seq awl (.seq awk (.cond (.t 24) (.seq awj .ret) .skip)))) awi)))
def a12:=a3k a0g.eq_1
def acy:=rg [
a3c 4 true] [4]
def c_ah:ICode:=(.seq r_ah_0 (.seq r_ah_1 (.cond (.t 10) (.seq r_ah_2 .ret) (.seq (.seq r_ah_3 (.block 0 (.loop a0g))) (.seq acy .ret)))))
def i_ah:IFunc:=⟨2,[.t 4],c_ah⟩
def a_ah:=zzy (zzz 8 [awi,awj,.ret,awl,awm,r_ah_3,.ret,r_ah_1,r_ah_0]++[(9,[4]),(6,[0,1,12,13,24]),(2,[4])])
def atq:=rg [
a3d 2 0] [0]
@[go_sem] def af9:Ops:=[
a3r 4 0,oo 5 (.idxA 1 (.t 4) (ci 0)),a3p 6 5,oo 7 (.cvInt .u32 (.t 6)),a3r 8 0,oo 9 (.idxA 1 (.t 8) (ci 1)),a3p 10 9,oo 11 (.cvInt .u32 (.t 10)),oo 12 (.bin .shl (.t 11) (.c (.int .u64 8))),a3f 13 .or 7 12,a3r 14 0,oo 15 (.idxA 1 (.t 14) (ci 2)),a3p 16 15,oo 17 (.cvInt .u32 (.t 16)),oo 18 (.bin .shl (.t 17) (.c (.int .u64 16))),a3f 19 .or 13 18,a3r 20 0,oo 21 (.idxA 1 (.t 20) (ci 3)),a3p 22 21,oo 23 (.cvInt .u32 (.t 22)),oo 24 (.bin .shl (.t 23) (.c (.int .u64 24))),a3f 25 .or 19 24,a3x 3 25]
def aga:List (Nat×Nat):=[(0,4),(1,4),(2,4),(3,4),(0,5),(1,5),(2,5),(3,5),(0,6),(1,6),(2,6),(3,6),(0,7),(1,7),(2,7),(3,7),(0,8),(1,8),(2,8),(3,8),(0,10),(1,10),(2,10),(3,10),(4,10),(5,10),(6,10),(7,10),(8,10),(9,10),(0,11),(1,11),(2,11),(3,11),(4,11),(5,11),(6,11),(7,11),(8,11),(9,11),(0,12),(1,12),(2,12),(3,12),(4,12),(5,12),(6,12),(7,12),(8,12),(9,12),(0,13),(1,13),(2,13),(3,13),(4,13),(5,13),(6,13),(7,13),(8,13),(9,13),(0,14),(1,14),(2,14),(3,14),(4,14),(5,14),(6,14),(7,14),(8,14),(9,14),(0,16),(1,16),(2,16),(3,16),(4,16),(5,16),(6,16),(7,16),(8,16),(9,16),(10,16),(11,16),(12,16),(13,16),(14,16),(15,16),(0,17),(1,17),(2,17),(3,17),(4,17),(5,17),(6,17),(7,17),(8,17),(9,17),(10,17),(11,17),(12,17),(13,17),(14,17),(15,17),(0,18),(1,18),(2,18),(3,18),(4,18),(5,18),(6,18),(7,18),(8,18),(9,18),(10,18),(11,18),(12,18),(13,18),(14,18),(15,18),(0,19),(1,19),(2,19),(3,19),(4,19),(5,19),(6,19),(7,19),(8,19),(9,19),(10,19),(11,19),(12,19),(13,19),(14,19),(15,19),(0,20),(1,20),(2,20),(3,20),(4,20),(5,20),(6,20),(7,20),(8,20),(9,20),(10,20),(11,20),(12,20),(13,20),(14,20),(15,20)]
def atp:ICode:= .region af9 aga [3]
@[go_sem] theorem r_cm_1_u:Gu X K s atp aga af9 [3]:=go_regionU' _ _ _ _
@[go_sem] def af8:Ops:=[
a3r 26 3,oo 27 (.bin .mul (.t 26) (.c (.int .u32 2654435761))),oo 28 (.bin .shr (.t 27) (.c (.int .u64 20))),oo 29 (.cvInt .i64 (.t 28)),a3x 2 29]
def uu:=rg af8 [2]
def c_cm:ICode:=(.seq atq (.seq atp (.seq uu .ret)))
def i_cm:IFunc:=⟨1,[.t 2],c_cm⟩
def a_cm:=zzy (zzz 0 [atq]++[(2,[2]),(1,[3])])
def r_ax_0:=rg [
oo 4 (.asg (.c .nilS))] [0,1]
def r_ax_1:=rg [
oo 5 (.asg (.c .nilS))] [0,1,5]
def r_ax_2:=rg [
a3d 6 0] [0,1,5,6]
def r_ax_3:=rg [
a3d 7 0] [0,1,5,6,7]
def au3:=rg [
a3r 11 7,a3e 12 .add 11 4,a3r 13 1,a3o 14 false 13,a3f 15 .leq 12 14] [0,1,5,6,7,15]
def au2:=rg [
a3r 16 1,a3r 17 7,oo 18 (.slice 1 (.t 16) (some (.t 17)) none none),a3g 19 n_cm [(.t 18)],a3x 8 19] [0,1,5,6,7,8]
def au1:=rg [
a3r 20 0,a3r 21 8,a3m 22 1 20 21,a3p 23 22,a3x 9 23] [0,1,5,6,7,8,9]
def au0:=rg [
a3r 24 0,a3r 25 8,a3r 26 7,a3m 27 1 24 25,a3w 1 27 26] [0,1,5,6,7,9]
@[go_sem] def akx:Ops:=[
a3r 28 9,a3e 29 .lss 28 0,a3r 30 29,a3j 31 30 false 7,a3j 32 30 false 9,og 33 30 false (.bin .sub (.t 31) (.t 32)),og 34 30 false (.bin .gtr (.t 33) (ci 65535)),a3v 35 30 34,a3r 36 35,a3j 37 36 false 1,a3j 38 36 false 9,a3j 39 36 false 9,og 40 36 false (.bin .add (.t 39) (ci 4)),og 41 36 false (.slice 1 (.t 37) (some (.t 38)) (some (.t 40)) none),a3j 42 36 false 1,a3j 43 36 false 7,a3j 44 36 false 7,og 45 36 false (.bin .add (.t 44) (ci 4)),og 46 36 false (.slice 1 (.t 42) (some (.t 43)) (some (.t 45)) none),og 47 36 false (.call false n_ah [(.t 41),(.t 46)]),og 48 36 false (.un .not (.t 47)),a3v 49 36 48]
def aky:List (Nat×Nat):=[(3,4),(9,10),(9,11),(10,11),(9,12),(10,12),(9,14),(10,14),(11,14),(12,14),(13,14),(9,15),(10,15),(11,15),(12,15),(13,15),(14,15),(9,16),(10,16),(11,16),(12,16),(13,16),(14,16),(15,16),(9,17),(10,17),(11,17),(12,17),(13,17),(14,17),(15,17),(9,18),(10,18),(11,18),(12,18),(13,18)]
def auz:ICode:= .region akx aky [0,1,5,6,7,9,49]
@[go_sem] theorem r_ax_8_u:Gu X K s auz aky akx [0,1,5,6,7,9,49]:=go_regionU' _ _ _ _
def auy:=rg [
a3r 50 7,a3e 51 .add 50 1,a3x 7 51] [0,1,5,6,7]
def ab3:=rg [
a3d 10 4] [0,1,5,6,7,9,10]
@[go_sem] def u6:Ops:=[
a3r 52 7,a3r 53 10,a3f 54 .add 52 53,a3r 55 1,a3o 56 false 55,a3f 57 .lss 54 56,a3r 58 57,a3j 59 58 true 1,a3j 60 58 true 9,a3j 61 58 true 10,og 62 58 true (.bin .add (.t 60) (.t 61)),og 63 58 true (.idxA 1 (.t 59) (.t 62)),og 64 58 true (.load none (.t 63)),a3j 65 58 true 1,a3j 66 58 true 7,a3j 67 58 true 10,og 68 58 true (.bin .add (.t 66) (.t 67)),og 69 58 true (.idxA 1 (.t 65) (.t 68)),og 70 58 true (.load none (.t 69)),og 71 58 true (.bin .eql (.t 64) (.t 70)),a3u 72 58 71]
def u7:List (Nat×Nat):=[(0,1),(0,3),(1,3),(2,3),(0,4),(1,4),(2,4),(7,8),(7,9),(8,9),(7,10),(7,13),(8,13),(9,13),(10,13),(11,13),(12,13),(7,14),(8,14),(9,14),(10,14),(11,14),(12,14),(13,14),(7,15),(8,15),(9,15),(10,15),(11,15),(12,15),(13,15),(14,15),(7,16),(8,16),(9,16),(10,16),(11,16),(12,16),(13,16),(7,17),(8,17),(9,17),(10,17),(11,17),(12,17),(7,18),(8,18),(9,18),(10,18),(11,18),(12,18)]
def ab2:ICode:= .region u6 u7 [0,1,5,6,7,9,10,72]
@[go_sem] theorem r_ax_11_u:Gu X K s ab2 u7 u6 [0,1,5,6,7,9,10,72]:=go_regionU' _ _ _ _
def ab1:=rg [
a3r 73 10,a3e 74 .add 73 1,a3x 10 74] [0,1,5,6,7,9,10]
def tn:ICode:=(.seq (.seq ab2 (.cond (.t 72) .skip (.exit 2))) (.block 3 ab1))
def a13:=a3k tn.eq_1
def rp:=rg [
a3r 75 5,a3r 76 1,a3r 77 6,a3r 78 7,oo 79 (.slice 1 (.t 76) (some (.t 77)) (some (.t 78)) none),a3r 80 7,a3r 81 9,a3f 82 .sub 80 81,a3r 83 10,oo 84 (.callg true n_bv [(.t 75),(.t 79),(.t 82),(.t 83)] 0),a3x 5 84] [0,1,5,7,10]
def rn:=rg [
a3r 85 7,a3r 86 10,a3f 87 .add 85 86,a3x 7 87] [0,1,5,7]
def rl:=rg [
a3r 88 7,a3x 6 88] [0,1,5,6,7]
def tm:ICode:=(.seq (.seq au3 (.cond (.t 15) .skip (.exit 0))) (.block 1 (.seq au2 (.seq au1 (.seq au0 (.seq (.seq auz (.cond (.t 49) (.seq auy (.exit 1)) .skip)) (.seq ab3 (.seq (.block 2 (.loop tn)) (.seq rp (.seq rn rl))))))))))
def a14:=a3k tm.eq_1
def rk:=rg [
a3r 89 5,a3r 90 1,a3r 91 6,oo 92 (.slice 1 (.t 90) (some (.t 91)) none none),oo 93 (.callg true n_bv [(.t 89),(.t 92),(ci 0),(ci 0)] 0),a3x 4 93] [4]
def c_ax:ICode:=(.seq r_ax_0 (.seq r_ax_1 (.seq r_ax_2 (.seq (.seq r_ax_3 (.block 0 (.loop tm))) (.seq rk .ret)))))
def i_ax:IFunc:=⟨2,[.t 4],c_ax⟩
def a_ax:Advice:=⟨[84,93],zzz 12 [ab1,.ret,ab3,auy,.ret,au0,au1,au2,au3,r_ax_3,r_ax_2,r_ax_1,r_ax_0]++[(16,[4]),(15,[0,1,5,6,7]),(14,[0,1,5,7]),(13,[0,1,5,7,10]),(11,[0,1,5,6,7,9,10,72]),(8,[0,1,5,6,7,9,49])],[],[],[(84,0),(93,0)],[]⟩
def a15:=a3i r_bg_0.eq_1 r_bg_1.eq_1 r_bg_2.eq_1 aup.eq_1 auo.eq_1 aun.eq_1 aum.eq_1 aul.eq_1
def a16:=a3i r_bl_0.eq_1 r_bl_1.eq_1 r_bl_2.eq_1 r_bl_3.eq_1 r_bl_5.eq_1 r_bl_6.eq_1 auk.eq_1 aui.eq_1
def a17:=a3i aby.eq_1 abx.eq_1 r_b5_0.eq_1 r_aj_0.eq_1 r_b5.eq_1 r_aj_2.eq_1 r_aj_3.eq_1 r_aj_4.eq_1
def a18:=a3i awb.eq_1 awa.eq_1 av9.eq_1 av8.eq_1 av7.eq_1 acw.eq_1 acv.eq_1 acu.eq_1
def a19:=a3i act.eq_1 r_ae_0.eq_1 r_ae_1.eq_1 r_ae_2.eq_1 r_ae_3.eq_1 r_ae_4.eq_1 r_ae_5.eq_1 r_ae_6.eq_1
def a2a:=a3i awy.eq_1 aww.eq_1 adc.eq_1 adb.eq_1 ada.eq_1 ac9.eq_1 ac8.eq_1 ac7.eq_1
def a2b:=a3i ac6.eq_1 ac5.eq_1 ac4.eq_1 ac2.eq_1 ac1.eq_1 ac0.eq_1 acz.eq_1 r_ak_0.eq_1
def a2c:=a3i r_ak_1.eq_1 r_ak_2.eq_1 r_ak_3.eq_1 r_ak_4.eq_1 r_ak_5.eq_1 r_ak_6.eq_1 r_ak_7.eq_1 r_ak_8.eq_1
def a2d:=a3i r_ak_9.eq_1 av6.eq_1 av5.eq_1 av4.eq_1 av3.eq_1 av2.eq_1 av1.eq_1 av0.eq_1
def a2e:=a3i avz.eq_1 avy.eq_1 avx.eq_1 r_br_0.eq_1 r_br_1.eq_1 r_br_3.eq_1 r_br_4.eq_1 r_br_5.eq_1
def a2f:=a3i r_br_6.eq_1 r_ao_0.eq_1 r_ao_1.eq_1 r_ao_2.eq_1 avv.eq_1 avt.eq_1 avs.eq_1 avr.eq_1
def a2g:=a3i avq.eq_1 avp.eq_1 acm.eq_1 r7.eq_1 nj.eq_1 ni.eq_1 nh.eq_1 r_av_0.eq_1
def a2h:=a3i r_av_1.eq_1 r_av_2.eq_1 r_av_4.eq_1 r_av_5.eq_1 avb.eq_1 ava.eq_1 au9.eq_1 au8.eq_1
def a2i:=a3i ab9.eq_1 ab8.eq_1 rz.eq_1 rt.eq_1 rr.eq_1 rq.eq_1 r_cw_0.eq_1 r_cw_1.eq_1
def a2j:=a3i r_bh_0.eq_1 r_bh_1.eq_1 r_bh_2.eq_1 r_bh_3.eq_1 r_bh_4.eq_1 r_bh_5.eq_1 r_bh_6.eq_1 r_bh_7.eq_1
def a2k:=a3i r_bh_8.eq_1 r_bh_9.eq_1 r_cx_0.eq_1 r_cx_1.eq_1 r_cf_0.eq_1 r_cf_1.eq_1 r_cf_2.eq_1 r_cf_3.eq_1
def a2l:=a3i r_ap_0.eq_1 r_ap_1.eq_1 r_ap_3.eq_1 r_ap_4.eq_1 r_ap_5.eq_1 avo.eq_1 avn.eq_1 avm.eq_1
def a2m:=a3i avl.eq_1 acl.eq_1 ack.eq_1 acj.eq_1 aci.eq_1 r_aw_0.eq_1 r_aw_1.eq_1 r_aw_2.eq_1
def a2n:=a3i r_aw_3.eq_1 r_aw_4.eq_1 r_aw_5.eq_1 r_aw_6.eq_1 r_aw_7.eq_1 r_aw_8.eq_1 r_aw_9.eq_1 au7.eq_1
def a2o:=a3i au6.eq_1 au5.eq_1 au4.eq_1 ab7.eq_1 ab6.eq_1 ab5.eq_1 ab4.eq_1 r_ce_0.eq_1
def a2p:=a3i r_ce_1.eq_1 r_ce_2.eq_1 r_ce_3.eq_1 r_ce_4.eq_1 r_ck_0.eq_1 r_ck_1.eq_1 r_ck_2.eq_1 r_bc_0.eq_1
def a2q:=a3i r_bc_1.eq_1 r_bc_2.eq_1 r_bc_4.eq_1 r_bc_5.eq_1 r_bc_6.eq_1 aus.eq_1 auq.eq_1 ab0.eq_1
def a2r:=a3i abz.eq_1 r_bq_0.eq_1 r_bq_1.eq_1 at8.eq_1 at7.eq_1 at6.eq_1 at5.eq_1 r_cy_0.eq_1
def a2s:=a3i r_cy_1.eq_1 r_b9_0.eq_1 r_b9_1.eq_1 r_b9_2.eq_1 r_b9_3.eq_1 r_au_0.eq_1 avi.eq_1 avh.eq_1
def a2t:=a3i avg.eq_1 avf.eq_1 ave.eq_1 avd.eq_1 avc.eq_1 aca.eq_1 r_bx_0.eq_1 r_bx_1.eq_1
def a2u:=a3i r_ab_0.eq_1 r_bx.eq_1 r_ab_3.eq_1 r_ab_5.eq_1 r_ab_6.eq_1 r_ab_7.eq_1 r_ab_8.eq_1 axy.eq_1
def a2v:=a3i ado.eq_1 adn.eq_1 adl.eq_1 adk.eq_1 adj.eq_1 adi.eq_1 adh.eq_1 adg.eq_1
def a2w:=a3i ade.eq_1 si.eq_1 se.eq_1 r_b8_0.eq_1 r_b8_1.eq_1 r_ag_0.eq_1 r_ag_1.eq_1 awr.eq_1
def a2x:=a3i awq.eq_1 awp.eq_1 awo.eq_1 awn.eq_1 r_ba_0.eq_1 r_ba_1.eq_1 r_bt_0.eq_1 r_b8.eq_1
def a2y:=a3i r_aq_0.eq_1 r_aq_1.eq_1 r_aq_3.eq_1 r_aq_5.eq_1 r_aq_6.eq_1 r_aq_7.eq_1 r_aq_8.eq_1 avj.eq_1
def a2z:=a3i ach.eq_1 acg.eq_1 acf.eq_1 ace.eq_1 acd.eq_1 acb.eq_1 avk.eq_1 r_bk_0.eq_1
def a20:=a3i r_bk_1.eq_1 r_bk_3.eq_1 r_bk_4.eq_1 r_bk_5.eq_1 r_b7_0.eq_1 r_b7_1.eq_1 r_ay_0.eq_1 r_ay_1.eq_1
def a21:=a3i r_ay_2.eq_1 aux.eq_1 auw.eq_1 auv.eq_1 auu.eq_1 aut.eq_1 r_b6_0.eq_1 r_b6_1.eq_1
def a22:=a3i r_b6_2.eq_1 r_b6_3.eq_1 r_b6_4.eq_1 r_bw_0.eq_1 r_bw_1.eq_1 r_bw_2.eq_1 r_bw_3.eq_1 atu.eq_1
def a23:=a3i att.eq_1 ats.eq_1 atr.eq_1 r_bv_0.eq_1 r_bv_1.eq_1 r_bv_2.eq_1 r_bv_3.eq_1 r_bv_4.eq_1
def a24:=a3i r_bv_5.eq_1 r_bv_6.eq_1 r_bv_7.eq_1 r_bv_8.eq_1 r_bv_9.eq_1 r_ah_0.eq_1 r_ah_1.eq_1 r_ah_3.eq_1
def a25:=a3i awm.eq_1 awl.eq_1 awj.eq_1 awi.eq_1 acy.eq_1 atq.eq_1 r_ax_0.eq_1 r_ax_1.eq_1
def a26:=a3i r_ax_2.eq_1 r_ax_3.eq_1 au3.eq_1 au2.eq_1 au1.eq_1 au0.eq_1 auy.eq_1 ab3.eq_1
def a27:=a3l ab1.eq_1
def a28:=a3l rp.eq_1
def a29:=a3l rn.eq_1
def a3a:=a3l rl.eq_1
def a3b:=a3l rk.eq_1
attribute [go_sem] a1g a1h a1i a1j a1k a1l a1m a1n a1o a1p a1q a1r a1s a1t a1u a1v a1w a1x a1y a1z a10 a11 a12 a13 a14 a15 a16 a17 a18 a19 a2a a2b a2c a2d a2e a2f a2g a2h a2i a2j a2k a2l a2m a2n a2o a2p a2q a2r a2s a2t a2u a2v a2w a2x a2y a2z a20 a21 a22 a23 a24 a25 a26 a27 a28 a29 a3a a3b
end Go.Proofs.YtkdiccgfbfbjlaaGreat
