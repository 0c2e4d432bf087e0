import Derived.Test.YtpnhljhciibfnaaGreatDoorL10
import Derived.Test.YtpnhljhciibfnaaGreatDoorChecked
namespace Go.Proofs.YtpnhljhciibfnaaGreatDoor
set_option linter.defProp false
open Go.Ev Go
variable {X:Kx} {K:List Kf} {s:St}
def Yn:FuncId:=3
def Ym:FuncId:=8
def TW:FuncId:=9
def Ta:FuncId:=10
def HR:FuncId:=11
def E6:FuncId:=12
def Dq:FuncId:=13
def Rt:FuncId:=14
def HQ:FuncId:=15
def T7:FuncId:=16
def Rx:FuncId:=17
def T6:FuncId:=18
def fV:FuncId:=21
def fW:FuncId:=22
def EA:FuncId:=26
def FV:FuncId:=27
def n_gr:FuncId:=29
def n_gx:FuncId:=30
def HZ:FuncId:=31
def Ha:FuncId:=32
def TP:FuncId:=33
def n_fz:FuncId:=34
def R6:FuncId:=35
def Ry:FuncId:=36
def Hy:FuncId:=37
def HX:FuncId:=38
def Hz:FuncId:=39
def FW:FuncId:=40
def Gz:FuncId:=41
def Re:FuncId:=42
def Rz:FuncId:=43
def Gy:FuncId:=44
def Rs:FuncId:=45
def Ro:FuncId:=46
def Tv:FuncId:=47
def Rr:FuncId:=48
def Gx:FuncId:=49
def GX:FuncId:=50
def T2:FuncId:=51
def H8:FuncId:=52
def Fy:FuncId:=53
def FX:FuncId:=54
def TU:FuncId:=55
def Ru:FuncId:=56
def Gw:FuncId:=57
def Rn:FuncId:=58
def T3:FuncId:=59
def Er:FuncId:=60
def GW:FuncId:=61
def H7:FuncId:=62
def HV:FuncId:=63
def HT:FuncId:=64
def Rl:FuncId:=75
def T4:FuncId:=77
def H6:FuncId:=78
def n_gd:FuncId:=79
def To:FuncId:=80
def n_gk:FuncId:=81
def T0:FuncId:=82
def n_f7:FuncId:=83
def H4:FuncId:=84
def V4:FuncId:=85
def Fx:FuncId:=86
def HS:FuncId:=87
def Tg:FuncId:=88
def Rm:FuncId:=89
def Ts:FuncId:=90
def HW:FuncId:=91
def HU:FuncId:=92
def TT:FuncId:=93
def Tw:FuncId:=94
def Ti:FuncId:=95
def Tp:FuncId:=96
def Tk:FuncId:=97
def T5:FuncId:=98
def Rp:FuncId:=99
def Te:FuncId:=100
def HY:FuncId:=101
def Tn:FuncId:=102
def Tb:FuncId:=103
def R5:FuncId:=104
def Tr:FuncId:=105
def Tm:FuncId:=106
def Rf:FuncId:=107
def H0:FuncId:=108
def TK:FuncId:=109
def H2:FuncId:=110
def H3:FuncId:=111
def Tt:FuncId:=112
def TS:FuncId:=113
def Rk:FuncId:=114
def TL:FuncId:=115
def TZ:FuncId:=116
def Rw:FuncId:=117
def Rv:FuncId:=118
def T1:FuncId:=126
def H5:FuncId:=127
def TQ:FuncId:=128
def TG:FuncId:=129
def n_gg:FuncId:=130
def Tz:FuncId:=131
def Tc:FuncId:=132
def Td:FuncId:=133
def Gv:FuncId:=134
def Tq:FuncId:=135
def TO:FuncId:=136
def Tl:FuncId:=137
def Rq:FuncId:=138
def TY:FuncId:=139
def TV:FuncId:=140
def TH:FuncId:=141
def V5:FuncId:=142
def Rj:FuncId:=143
def TF:FuncId:=144
def TE:FuncId:=149
def Rc:FuncId:=150
def TJ:FuncId:=151
def TX:FuncId:=152
def TM:FuncId:=153
def Rg:FuncId:=154
def Tf:FuncId:=155
def TR:FuncId:=156
def Tu:FuncId:=167
def Tj:FuncId:=168
def V2:FuncId:=169
def V1:FuncId:=170
def Rh:FuncId:=171
def Th:FuncId:=177
def V3:FuncId:=180
def OA:=rg [
oo 4 (.asg (.c (.str [])))] [0,1]
def N9:=rg [
by8 6 0,byx 7 Rv [(.t 6)],byx 8 Rw [(.t 7)],bze 5 8] [0,1,5]
def bj7:=rg [
by8 9 5,by5 10 true 9,by8 11 1,byw 12 .leq 10 11] [0,1,5,12]
def bj6:=rg [
by8 13 5,oo 14 (.bin .add (.c (.str [48])) (.t 13)),bze 5 14] [0,1,5]
def btz:AD:=(.seq (.seq bj7 (.cond (.t 12) .skip (.exit 0))) (.block 1 bj6))
def bvu:=by1 btz.eq_1
def Vb:=rg [
by8 15 1,byv 16 .gtr 15 0] [0,1,5,16]
@[go_sem] def a6x:Ops:=[
by8 17 5,by8 18 5,by5 19 true 18,by8 20 1,byw 21 .sub 19 20,oo 22 (.CK (.t 17) none (some (.t 21))),oo 23 (.bin .add (.t 22) (.c (.str [46]))),by8 24 5,by8 25 5,by5 26 true 25,by8 27 1,byw 28 .sub 26 27,oo 29 (.CK (.t 24) (some (.t 28)) none),byw 30 .add 23 29,bze 5 30]
def a6y:List (Nat×Nat):=[(0,1),(0,2),(0,3),(1,3),(2,3),(0,4),(0,7),(1,7),(2,7),(3,7),(4,7),(5,7),(6,7),(0,8),(1,8),(2,8),(3,8),(4,8),(5,8),(6,8),(7,8),(0,9),(1,9),(2,9),(3,9),(4,9),(5,9),(6,9),(7,9),(0,10),(1,10),(2,10),(3,10),(4,10),(5,10),(6,10),(7,10),(8,10),(9,10),(0,11),(1,11),(2,11),(3,11),(4,11),(5,11),(6,11),(7,11),(0,12),(1,12),(2,12),(3,12),(4,12),(5,12),(6,12)]
def VZ:AD:= .region a6x a6y [0,5]
@[go_sem] theorem r_ba_6_u:Gu X K s VZ a6y a6x [0,5]:=Ab _ _ _ _
def VY:=rg [
by8 31 0,byv 32 .lss 31 0] [5,32]
def N8:=rg [
by8 33 5,oo 34 (.bin .add (.c (.str [45])) (.t 33)),bze 4 34] [4]
def VX:=rg [
by8 35 5,bze 4 35] [4]
def SQ:AD:=(.seq OA (.seq N9 (.seq (.block 0 (.loop btz)) (.seq (.seq Vb (.cond (.t 16) VZ .skip)) (.seq VY (.cond (.t 32) (.seq N8 .ret) (.seq VX .ret)))))))
def kJ:AP:=⟨2,[.t 4],SQ⟩
def a_ba:=zzy (by4 [(8,N8),(3,bj6),(2,bj7),(1,N9),(0,OA)]++[(7,[4]),(6,[5,32]),(5,[0,5]),(4,[0,1,5,16])])
def Og:=rg [
oo 6 (.asg (.c .AB))] [0,1,2]
def Od:=rg [
by8 7 1,byx 8 Rl [(.t 7)],bza 9 8] [0,1,2,9]
@[go_sem] def Vc:Ops:=[
by8 10 0,bze 6 10]
def fK:=rg Vc [6]
def Oc:=rg [
by8 11 0,by8 12 1,oo 13 (.Aj .u64 (.t 12)),oo 14 (.bin .shl (.t 13) (.c (.int .u64 3))),oo 15 (.bin .or (.t 14) (.c (.int .u64 2))),oo 16 (.A9 true GW [(.t 11),(.t 15)] 0),by8 17 2,by5 18 false 17,oo 19 (.Aj .u64 (.t 18)),oo 20 (.A9 true GW [(.t 16),(.t 19)] 0),by8 21 2,oo 22 (.append 1 1 (.t 20) (.t 21)),bze 6 22] [6]
def UJ:AD:=(.seq Og (.seq Od (.cond (.t 9) (.seq fK .ret) (.seq Oc .ret))))
def Y8:AP:=⟨3,[.t 6],UJ⟩
def a_b0:AG:=⟨[16,20],zzz 3 [Oc,.ret,Od,Og]++[(2,[6])],[],[],[(16,0),(20,0)],[]⟩
def Ka:=rg [
oo 2 (.asg (.c (.int .u64 0)))] [0]
def KZ:=rg [
by8 3 0,byv 4 .lss 3 0] [0,4]
def KY:=rg [
by8 5 0,byv 6 .add 5 1,oo 7 (.bin .sub (ci 0) (.t 6)),oo 8 (.Aj .u64 (.t 7)),oo 9 (.bin .shl (.t 8) (.c (.int .u64 1))),oo 10 (.bin .or (.t 9) (.c (.int .u64 1))),bze 2 10] [2]
def KX:=rg [
by8 11 0,oo 12 (.Aj .u64 (.t 11)),oo 13 (.bin .shl (.t 12) (.c (.int .u64 1))),bze 2 13] [2]
def XJ:AD:=(.seq Ka (.seq KZ (.cond (.t 4) (.seq KY .ret) (.seq KX .ret))))
def iX:AP:=⟨1,[.t 2],XJ⟩
def a_dl:=zzy (zzz 3 [KX,KY,KZ,Ka])
def Lb:=rg [
oo 6 (.asg (.c .AB))] [0,1,2]
def La:=rg [
by8 7 0,by8 8 1,by8 9 2,byx 10 TZ [(.t 9)],oo 11 (.A9 true FV [(.t 7),(.t 8),(.t 10)] 0),bze 6 11] [6]
def UF:AD:=(.seq Lb (.seq La .ret))
def Y5:AP:=⟨3,[.t 6],UF⟩
def a_cw:AG:=⟨[11],zzz 1 [La,Lb],[],[],[(11,0)],[]⟩
def Mp:=rg [
oo 4 (.asg (.c .AB))] [0,1]
def bix:=rg [
by8 5 1,oo 6 (.bin .geq (.t 5) (.c (.int .u64 128)))] [0,1,6]
def biw:=rg [
by8 7 0,by8 8 1,oo 9 (.bin .and (.t 8) (.c (.int .u64 127))),oo 10 (.bin .or (.t 9) (.c (.int .u64 128))),oo 11 (.Aj .u8 (.t 10)),oo 12 (.lit false 1 1 (.int .u8 0) [(0,(.t 11))]),oo 13 (.append 1 1 (.t 7) (.t 12)),bze 0 13] [0,1]
def biv:=rg [
by8 14 1,oo 15 (.bin .shr (.t 14) (.c (.int .u64 7))),bze 1 15] [0,1]
def btu:AD:=(.seq (.seq bix (.cond (.t 6) .skip (.exit 0))) (.block 1 (.seq biw biv)))
def bvv:=by1 btu.eq_1
def biu:=rg [
by8 16 0,by8 17 1,oo 18 (.Aj .u8 (.t 17)),oo 19 (.lit false 1 1 (.int .u8 0) [(0,(.t 18))]),oo 20 (.append 1 1 (.t 16) (.t 19)),bze 4 20] [4]
def SP:AD:=(.seq Mp (.seq (.block 0 (.loop btu)) (.seq biu .ret)))
def Y7:AP:=⟨2,[.t 4],SP⟩
def a_bv:AG:=⟨[13],zzz 3 [biv,biw,bix,Mp]++[(4,[4])],[],[],[],[]⟩
def Jn:=rg [
byt 2 false] [0]
def Jm:=rg [
by8 3 0,byv 4 .geq 3 1,by8 5 4,by0 6 5 true 0,og 7 5 true (.bin .leq (.t 6) (ci 536870911)),bzb 8 5 7,bze 2 8] [2]
def Zu:AD:=(.seq Jn (.seq Jm .ret))
def iF:AP:=⟨1,[.t 2],Zu⟩
def a_en:=zzy (zzz 1 [Jm,Jn])
def MD:=rg [
oo 6 (.asg (.c .AB))] [0,1,2]
def MC:=rg [
by8 7 1,byx 8 Rl [(.t 7)],bza 9 8] [0,1,2,9]
@[go_sem] def VQ:Ops:=[
by8 10 0,bze 6 10]
def fG:=rg VQ [6]
def MB:=rg [
by8 11 0,by8 12 1,oo 13 (.Aj .u64 (.t 12)),oo 14 (.bin .shl (.t 13) (.c (.int .u64 3))),oo 15 (.A9 true GW [(.t 11),(.t 14)] 0),by8 16 2,oo 17 (.A9 true GW [(.t 15),(.t 16)] 0),bze 6 17] [6]
def UH:AD:=(.seq MD (.seq MC (.cond (.t 9) (.seq fG .ret) (.seq MB .ret))))
def Y6:AP:=⟨3,[.t 6],UH⟩
def a_cf:AG:=⟨[15,17],zzz 3 [MB,.ret,MC,MD]++[(2,[6])],[],[],[(15,0),(17,0)],[]⟩
def RP:=rg [
oo 2 (.box 6 (.t 0)),oo 3 (.box 15 (.t 1)),oo 4 (.asg (.c .AB))] [2,3]
def RO:=rg [
byy 9 0 3,by6 10 9,oo 11 (.Aj .u64 (.t 10)),oo 12 (.A9 true FV [(.c .AB),(ci 1),(.t 11)] 0),bze 5 12] [2,3,5]
def RN:=rg [
oo 6 (.asg (.c .AB))] [2,3,5,6]
def RM:=rg [
byu 7 0] [2,3,5,6,7]
def RL:=rg [
byy 14 0 2,by6 15 14,byx 16 Rs [(.t 15)],bze 13 16] [2,3,5,6,7,13]
def RJ:=rg [
byu 7 2] [3,5,6,7]
def RI:=rg [
byy 17 2 3,by6 18 17] [3,5,6,7,18]
@[go_sem] def bc9:Ops:=[
by8 19 6,byy 20 3 3,byy 21 1 20,by6 22 21,oo 23 (.A9 true Er [(.t 19),(ci 1),(.t 22)] 0),byy 24 8 3,byy 25 1 24,by6 26 25,oo 27 (.A9 true Er [(.t 23),(ci 2),(.t 26)] 0),bze 6 27]
def bda:List (Nat×Nat):=[(0,1),(0,2),(0,3),(0,5),(1,5),(2,5),(3,5),(4,5),(0,6),(1,6),(2,6),(3,6),(4,6),(0,7),(1,7),(2,7),(3,7),(4,7)]
def Vh:AD:= .region bc9 bda [3,5,6,7]
@[go_sem] theorem r_ab_7_u:Gu X K s Vh bda bc9 [3,5,6,7]:=Ab _ _ _ _
def RH:=rg [
byy 28 13 3,by6 29 28] [3,5,6,7,29]
def RG:=rg [
by8 30 6,byy 31 14 3,by6 32 31,oo 33 (.A9 true Er [(.t 30),(ci 3),(.t 32)] 0),bze 6 33] [3,5,6,7]
def bq7:=rg [
byy 35 0 2,by6 36 35,byx 37 Ro [(.t 36)],bze 34 37] [2,3,5,6,7,34]
def bq6:=rg [
byu 7 4] [3,5,6,7]
def bq5:=rg [
byy 38 2 3,by6 39 38] [3,5,6,7,39]
@[go_sem] def ali:Ops:=[
by8 40 6,byy 41 3 3,byy 42 3 41,by6 43 42,oo 44 (.A9 true EA [(.t 40),(ci 1),(.t 43)] 0),byy 45 8 3,byy 46 3 45,by6 47 46,oo 48 (.A9 true EA [(.t 44),(ci 2),(.t 47)] 0),bze 6 48]
def alj:List (Nat×Nat):=[(0,1),(0,2),(0,3),(0,5),(1,5),(2,5),(3,5),(4,5),(0,6),(1,6),(2,6),(3,6),(4,6),(0,7),(1,7),(2,7),(3,7),(4,7)]
def bq4:AD:= .region ali alj [3,5,6,7]
@[go_sem] theorem r_ab_13_u:Gu X K s bq4 alj ali [3,5,6,7]:=Ab _ _ _ _
def bq3:=rg [
byy 49 13 3,by6 50 49] [3,5,6,7,50]
def bq2:=rg [
by8 51 6,byy 52 14 3,by6 53 52,oo 54 (.A9 true Er [(.t 51),(ci 3),(.t 53)] 0),bze 6 54] [3,5,6,7]
def bq1:=rg [
byy 56 0 2,by6 57 56,byv 58 .eql 57 0,bze 55 58] [2,3,5,6,7,55]
def bq0:=rg [
byu 7 5] [3,5,6,7]
def bqz:=rg [
byy 59 13 3,by6 60 59] [3,5,6,7,60]
def bqy:=rg [
by8 61 6,byy 62 14 3,by6 63 62,oo 64 (.Aj .u64 (.t 63)),oo 65 (.A9 false GW [(.c .AB),(.t 64)] 0),oo 66 (.A9 true EA [(.t 61),(ci 1),(.t 65)] 0),bze 6 66] [3,5,6,7]
def bqx:=rg [
byy 68 0 2,by6 69 68,byv 70 .eql 69 14,bze 67 70] [2,3,5,6,7,67]
def bqw:=rg [
byu 7 6] [2,3,5,6,7]
def bqv:=rg [
byy 71 2 3,by6 72 71] [2,3,5,6,7,72]
@[go_sem] def ak7:Ops:=[
by8 73 6,byy 74 3 3,byy 75 1 74,by6 76 75,byy 77 5 2,by6 78 77,byx 79 H7 [(.t 76),(.t 78)],oo 80 (.s2b false (.t 79)),oo 81 (.A9 true EA [(.t 73),(ci 1),(.t 80)] 0),byy 82 8 3,byy 83 1 82,by6 84 83,byy 85 5 2,by6 86 85,byx 87 H7 [(.t 84),(.t 86)],oo 88 (.s2b false (.t 87)),oo 89 (.A9 true EA [(.t 81),(ci 2),(.t 88)] 0),bze 6 89]
def ak8:List (Nat×Nat):=[(0,1),(0,2),(0,3),(0,4),(1,4),(2,4),(3,4),(0,5),(1,5),(2,5),(3,5),(0,6),(0,7),(0,9),(1,9),(2,9),(3,9),(4,9),(5,9),(6,9),(7,9),(8,9),(0,10),(1,10),(2,10),(3,10),(4,10),(5,10),(6,10),(7,10),(8,10),(0,11),(1,11),(2,11),(3,11),(4,11),(5,11),(6,11),(7,11),(8,11),(0,12),(1,12),(2,12),(3,12),(4,12),(5,12),(6,12),(7,12),(8,12),(9,12),(10,12),(11,12),(0,13),(1,13),(2,13),(3,13),(4,13),(5,13),(6,13),(7,13),(8,13),(9,13),(10,13),(11,13)]
def bqu:AD:= .region ak7 ak8 [2,3,5,6,7]
@[go_sem] theorem r_ab_23_u:Gu X K s bqu ak8 ak7 [2,3,5,6,7]:=Ab _ _ _ _
def bqt:=rg [
byy 90 13 3,by6 91 90] [2,3,5,6,7,91]
def bqs:=rg [
by8 92 6,byy 93 14 3,by6 94 93,byy 95 5 2,by6 96 95,byx 97 H7 [(.t 94),(.t 96)],oo 98 (.s2b false (.t 97)),oo 99 (.A9 true EA [(.t 92),(ci 3),(.t 98)] 0),bze 6 99] [3,5,6,7]
def bqr:=rg [
byy 101 0 2,by6 102 101,byv 103 .eql 102 15,bze 100 103] [2,3,5,6,7,100]
def bqq:=rg [
byu 7 7] [3,5,6,7]
def bqp:=rg [
byy 104 2 3,by6 105 104] [3,5,6,7,105]
@[go_sem] def ak0:Ops:=[
by8 106 6,byy 107 3 3,byy 108 1 107,by6 109 108,oo 110 (.A9 true Er [(.t 106),(ci 1),(.t 109)] 0),byy 111 8 3,byy 112 1 111,by6 113 112,oo 114 (.A9 true Er [(.t 110),(ci 2),(.t 113)] 0),bze 6 114]
def ak1:List (Nat×Nat):=[(0,1),(0,2),(0,3),(0,5),(1,5),(2,5),(3,5),(4,5),(0,6),(1,6),(2,6),(3,6),(4,6),(0,7),(1,7),(2,7),(3,7),(4,7)]
def bqo:AD:= .region ak0 ak1 [3,5,6,7]
@[go_sem] theorem r_ab_29_u:Gu X K s bqo ak1 ak0 [3,5,6,7]:=Ab _ _ _ _
def bqn:=rg [
byy 116 0 2,by6 117 116,byv 118 .eql 117 8,bze 115 118] [2,3,5,6,7,115]
def bqm:=rg [
byu 7 8] [3,5,6,7]
def bql:=rg [
byy 119 13 3,by6 120 119] [3,5,6,7,120]
def bqk:=rg [
by8 121 6,byy 122 14 3,by6 123 122,oo 124 (.A9 true Er [(.t 121),(ci 1),(.t 123)] 0),bze 6 124] [3,5,6,7]
def bqj:=rg [
byy 126 0 2,by6 127 126,byv 128 .eql 127 9,bze 125 128] [3,5,6,7,125]
def bqi:=rg [
byu 7 9] [3,5,6,7]
def bqh:=rg [
byy 129 2 3,by6 130 129] [3,5,6,7,130]
@[go_sem] def akr:Ops:=[
by8 131 6,byy 132 3 3,byy 133 1 132,by6 134 133,oo 135 (.A9 true Er [(.t 131),(ci 1),(.t 134)] 0),byy 136 8 3,byy 137 1 136,by6 138 137,oo 139 (.A9 true Er [(.t 135),(ci 2),(.t 138)] 0),bze 6 139]
def aks:List (Nat×Nat):=[(0,1),(0,2),(0,3),(0,5),(1,5),(2,5),(3,5),(4,5),(0,6),(1,6),(2,6),(3,6),(4,6),(0,7),(1,7),(2,7),(3,7),(4,7)]
def bqg:AD:= .region akr aks [3,5,6,7]
@[go_sem] theorem r_ab_37_u:Gu X K s bqg aks akr [3,5,6,7]:=Ab _ _ _ _
@[go_sem] def akp:Ops:=[
by8 140 6,byy 141 3 3,byy 142 2 141,by6 143 142,oo 144 (.Aj .u64 (.t 143)),oo 145 (.A9 true FV [(.t 140),(ci 3),(.t 144)] 0),byy 146 8 3,byy 147 2 146,by6 148 147,oo 149 (.Aj .u64 (.t 148)),oo 150 (.A9 true FV [(.t 145),(ci 4),(.t 149)] 0),bze 6 150]
def akq:List (Nat×Nat):=[(0,1),(0,2),(0,3),(0,4),(0,6),(1,6),(2,6),(3,6),(4,6),(5,6),(0,7),(1,7),(2,7),(3,7),(4,7),(5,7),(0,8),(1,8),(2,8),(3,8),(4,8),(5,8),(0,9),(1,9),(2,9),(3,9),(4,9),(5,9)]
def bqf:AD:= .region akp akq [3,5,6,7]
@[go_sem] theorem r_ab_38_u:Gu X K s bqf akq akp [3,5,6,7]:=Ab _ _ _ _
def bqe:=rg [
by8 151 7,byv 152 .gtr 151 0,by8 153 152,og 154 153 true (.AH 2 (.t 3)),og 155 153 true (.load none (.t 154)),by0 156 153 true 155,og 157 156 false (.AH 13 (.t 3)),og 158 156 false (.load none (.t 157)),og 159 153 true (.pick (.t 156) (.c (.bool true)) (.t 158)),bzb 160 153 159] [3,5,6,7,160]
def bqd:=rg [
by8 161 5,by8 162 7,by8 163 6,oo 164 (.A9 true EA [(.t 161),(.t 162),(.t 163)] 0),bze 5 164] [3,5]
def bqc:=rg [
oo 8 (.asg (.c (.int .u64 0)))] [3,5,8]
def bqb:=rg [
byy 165 1 3,by6 166 165] [5,8,166]
def bqa:=rg [
oo 8 (.asg (.c (.int .u64 1)))] [5,8]
def bp9:=rg [
by8 167 5,by8 168 8,oo 169 (.A9 true FV [(.t 167),(ci 10),(.t 168)] 0),bze 4 169] [4]
def Am:AD:=(.seq RP (.seq RO (.seq RN (.seq RM (.seq (.block 0 (.seq RL (.cond (.t 13) (.seq RJ (.seq (.seq RI (.cond (.t 18) Vh .skip)) (.seq RH (.cond (.t 29) RG .skip)))) (.seq bq7 (.cond (.t 34) (.seq bq6 (.seq (.seq bq5 (.cond (.t 39) bq4 .skip)) (.seq bq3 (.cond (.t 50) bq2 .skip)))) (.seq bq1 (.cond (.t 55) (.seq bq0 (.seq bqz (.cond (.t 60) bqy .skip))) (.seq bqx (.cond (.t 67) (.seq bqw (.seq (.seq bqv (.cond (.t 72) bqu .skip)) (.seq bqt (.cond (.t 91) bqs .skip)))) (.seq bqr (.cond (.t 100) (.seq bqq (.seq bqp (.cond (.t 105) bqo .skip))) (.seq bqn (.cond (.t 115) (.seq bqm (.seq bql (.cond (.t 120) bqk .skip))) (.seq bqj (.cond (.t 125) (.seq bqi (.seq bqh (.cond (.t 130) (.seq bqg bqf) .skip))) .skip))))))))))))))) (.seq (.seq bqe (.cond (.t 160) (.seq (.Bw [6]) bqd) .skip)) (.seq bqc (.seq (.seq bqb (.cond (.t 166) bqa .skip)) (.seq bp9 .ret)))))))))
def lH:AP:=⟨2,[.t 4],Am⟩
def a_ab:AG:=⟨[12,23,27,33,44,48,54,66,81,89,99,110,114,124,135,139,145,150,164,169],zzz 44 [bp9,bqa,bqb,bqc,bqd,bqe,.ret,.ret,bqh,bqi,bqj,bqk,bql,bqm,bqn,.ret,bqp,bqq,bqr,bqs,bqt,.ret,bqv,bqw,bqx,bqy,bqz,bq0,bq1,bq2,bq3,.ret,bq5,bq6,bq7,RG,RH,.ret,RI,RJ,RL,RM,RN,RO,RP]++[(7,[3,5,6,7]),(13,[3,5,6,7]),(23,[2,3,5,6,7]),(29,[3,5,6,7]),(38,[3,5,6,7]),(37,[3,5,6,7])],[(40,[6])],[],[(12,0),(23,0),(27,0),(33,0),(44,0),(48,0),(54,0),(65,0),(66,0),(81,0),(89,0),(99,0),(110,0),(114,0),(124,0),(135,0),(139,0),(145,0),(150,0),(164,0),(169,0)],[]⟩
def Jz:=rg [
byt 2 false] [0]
def Jy:=rg [
by8 3 0,byv 4 .leq 3 4,by8 5 4,by0 6 5 false 0,og 7 5 false (.bin .eql (.t 6) (ci 7)),bzc 8 5 7,by8 9 8,by0 10 9 false 0,og 11 9 false (.bin .eql (.t 10) (ci 16)),bzc 12 9 11,by8 13 12,by0 14 13 false 0,og 15 13 false (.bin .eql (.t 14) (ci 17)),bzc 16 13 15,by8 17 16,by0 18 17 false 0,og 19 17 false (.bin .eql (.t 18) (ci 8)),bzc 20 17 19,by8 21 20,by0 22 21 false 0,og 23 21 false (.bin .eql (.t 22) (ci 14)),bzc 24 21 23,bze 2 24] [2]
def Zy:AD:=(.seq Jz (.seq Jy .ret))
def iJ:AP:=⟨1,[.t 2],Zy⟩
def a_ef:=zzy (zzz 1 [Jy,Jz])
def RS:=rg [
oo 2 (.box 6 (.t 0)),oo 3 (.box 15 (.t 1)),byt 4 false] [2,3]
def RR:=rg [
byy 6 0 3,by6 7 6,byv 8 .lss 7 0,by8 9 8,og 10 9 false (.AH 0 (.t 3)),og 11 9 false (.load none (.t 10)),og 12 9 false (.bin .gtr (.t 11) (ci 262144)),bzc 13 9 12,by8 14 13,og 15 14 false (.AH 13 (.t 3)),og 16 14 false (.load none (.t 15)),og 17 14 false (.un .not (.t 16)),by0 18 14 false 17,og 19 18 true (.AH 14 (.t 3)),og 20 18 true (.load none (.t 19)),og 21 18 true (.bin .neq (.t 20) (ci 0)),og 22 14 false (.pick (.t 18) (.t 21) (.c (.bool false))),bzc 23 14 22,by8 24 23,og 25 24 false (.AH 13 (.t 3)),og 26 24 false (.load none (.t 25)),by0 27 24 false 26,og 28 27 true (.AH 0 (.t 2)),og 29 27 true (.load none (.t 28)),og 30 27 true (.call false TU [(.t 29)]),og 31 27 true (.un .not (.t 30)),og 32 24 false (.pick (.t 27) (.t 31) (.c (.bool false))),bzc 33 24 32,by8 34 33,og 35 34 false (.AH 0 (.t 2)),og 36 34 false (.load none (.t 35)),og 37 34 false (.bin .eql (.t 36) (ci 0)),by0 38 34 false 37,og 39 38 true (.AH 13 (.t 3)),og 40 38 true (.load none (.t 39)),og 41 34 false (.pick (.t 38) (.t 40) (.c (.bool false))),by0 42 34 false 41,og 43 42 true (.AH 14 (.t 3)),og 44 42 true (.load none (.t 43)),og 45 42 true (.bin .lss (.t 44) (ci 0)),by0 46 42 true 45,og 47 46 false (.AH 14 (.t 3)),og 48 46 false (.load none (.t 47)),og 49 46 false (.bin .gtr (.t 48) (ci 262144)),og 50 42 true (.pick (.t 46) (.c (.bool true)) (.t 49)),og 51 34 false (.pick (.t 42) (.t 50) (.c (.bool false))),bzc 52 34 51] [2,3,52]
def RQ:=rg [
byt 4 false] [4]
def brl:=rg [
byy 53 2 3,by6 54 53,bza 55 54] [2,3,55]
def brk:=rg [
byy 56 3 3,by7 57 5 56,oo 58 (.build [(.bool false),(.int .i64 0),(.int .i64 0),.AB,.AB] []),byx 59 FX [(.t 57),(.t 58)],by8 60 59,og 61 60 true (.AH 8 (.t 3)),og 62 60 true (.load (some 5) (.t 61)),og 63 60 true (.build [(.bool false),(.int .i64 0),(.int .i64 0),.AB,.AB] []),og 64 60 true (.call false FX [(.t 62),(.t 63)]),bzb 65 60 64,bze 4 65] [4]
def brj:=rg [
byy 66 0 2,by6 67 66,byx 68 Ru [(.t 67)],by8 69 68,og 70 69 true (.AH 0 (.t 2)),og 71 69 true (.load none (.t 70)),og 72 69 true (.bin .neq (.t 71) (ci 0)),bzb 73 69 72,by8 74 73,og 75 74 true (.AH 0 (.t 2)),og 76 74 true (.load none (.t 75)),og 77 74 true (.bin .neq (.t 76) (ci 8)),bzb 78 74 77,bze 5 78] [2,3,5]
def bri:=rg [
by8 79 5,by8 80 79,og 81 80 true (.AH 3 (.t 3)),og 82 80 true (.AH 0 (.t 81)),og 83 80 true (.load none (.t 82)),og 84 80 true (.un .not (.t 83)),bzb 85 80 84,by8 86 85,og 87 86 true (.AH 8 (.t 3)),og 88 86 true (.AH 0 (.t 87)),og 89 86 true (.load none (.t 88)),og 90 86 true (.un .not (.t 89)),bzb 91 86 90,by8 92 91,og 93 92 true (.load (some 6) (.t 2)),og 94 92 true (.AH 3 (.t 3)),og 95 92 true (.load (some 5) (.t 94)),og 96 92 true (.call false Fy [(.t 93),(.t 95)]),og 97 92 true (.bin .eql (.t 96) (ci 0)),bzb 98 92 97,by8 99 98,og 100 99 true (.load (some 6) (.t 2)),og 101 99 true (.AH 8 (.t 3)),og 102 99 true (.load (some 5) (.t 101)),og 103 99 true (.call false Fy [(.t 100),(.t 102)]),og 104 99 true (.bin .eql (.t 103) (ci 0)),bzb 105 99 104,bze 4 105] [4]
def Fe:AD:=(.seq RS (.seq RR (.cond (.t 52) (.seq RQ .ret) (.seq brl (.cond (.t 55) (.seq brk .ret) (.seq brj (.seq bri .ret)))))))
def lJ:AP:=⟨2,[.t 4],Fe⟩
def a_a8:=zzy (zzz 6 [bri,brj,brk,brl,RQ,RR,RS])
def RX:=rg [
oo 2 (.box 5 (.t 0)),oo 3 (.box 5 (.t 1)),byt 4 false] [2,3]
def RW:=rg [
byy 6 0 2,by6 7 6,byy 8 0 3,by6 9 8,oo 10 (.eqn true .bool (.t 7) (.t 9)),by8 11 10,og 12 11 false (.AH 1 (.t 2)),og 13 11 false (.load none (.t 12)),og 14 11 false (.AH 1 (.t 3)),og 15 11 false (.load none (.t 14)),og 16 11 false (.bin .neq (.t 13) (.t 15)),bzc 17 11 16,by8 18 17,og 19 18 false (.AH 2 (.t 2)),og 20 18 false (.load none (.t 19)),og 21 18 false (.AH 2 (.t 3)),og 22 18 false (.load none (.t 21)),og 23 18 false (.bin .neq (.t 20) (.t 22)),bzc 24 18 23,by8 25 24,og 26 25 false (.AH 3 (.t 2)),og 27 25 false (.load none (.t 26)),og 28 25 false (.b2s (.t 27)),og 29 25 false (.AH 3 (.t 3)),og 30 25 false (.load none (.t 29)),og 31 25 false (.b2s (.t 30)),og 32 25 false (.bin .neq (.t 28) (.t 31)),bzc 33 25 32,by8 34 33,og 35 34 false (.AH 4 (.t 2)),og 36 34 false (.load none (.t 35)),og 37 34 false (.len false (.t 36)),og 38 34 false (.AH 4 (.t 3)),og 39 34 false (.load none (.t 38)),og 40 34 false (.len false (.t 39)),og 41 34 false (.bin .neq (.t 37) (.t 40)),bzc 42 34 41] [2,3,42]
def RV:=rg [
byt 4 false] [4]
def RU:=rg [
byu 5 0] [2,3,5]
def brq:=rg [
by8 43 5,byy 44 4 2,by6 45 44,by5 46 false 45,byw 47 .lss 43 46] [2,3,5,47]
@[go_sem] def bd2:Ops:=[
byy 50 4 2,by6 51 50,by8 52 5,by3 53 5 51 52,by7 54 5 53,byy 55 4 3,by6 56 55,by8 57 5,by3 58 5 56 57,by7 59 5 58,byx 60 FX [(.t 54),(.t 59)],bza 61 60]
def bd3:List (Nat×Nat):=[(0,2),(1,2),(0,5),(1,5),(2,5),(3,5),(4,5),(0,6),(1,6),(2,6),(3,6),(4,6),(0,7),(1,7),(2,7),(3,7),(4,7),(5,7),(6,7),(0,8),(1,8),(2,8),(3,8),(4,8),(0,9),(1,9),(2,9),(3,9),(4,9)]
def brp:AD:= .region bd2 bd3 [2,3,5,61]
@[go_sem] theorem r_a7_5_u:Gu X K s brp bd3 bd2 [2,3,5,61]:=Ab _ _ _ _
def bro:=rg [
byt 4 false] [4]
def brn:=rg [
by8 48 5,byv 49 .add 48 1,bze 5 49] [2,3,5]
def bt1:AD:=(.seq (.seq brq (.cond (.t 47) .skip (.exit 0))) (.seq (.block 1 (.seq brp (.cond (.t 61) (.seq bro .ret) .skip))) brn))
def bvw:=by1 bt1.eq_1
def brm:=rg [
byt 4 true] [4]
def Hh:AD:=(.seq RX (.seq RW (.cond (.t 42) (.seq RV .ret) (.seq (.seq RU (.block 0 (.loop bt1))) (.seq brm .ret)))))
def lK:AP:=⟨2,[.t 4],Hh⟩
def a_a7:=zzy (zzz 4 [brq,RU,RV,RW,RX]++[(8,[4]),(5,[2,3,5]),(7,[4]),(6,[2,3,5,61])])
def LI:=rg [
oo 2 (.box 15 (.t 0)),oo 3 (.box 15 (.t 1)),byt 4 false] [2,3]
def LH:=rg [
byy 5 0 2,by6 6 5,byy 7 0 3,by6 8 7,byw 9 .eql 6 8,by8 10 9,og 11 10 true (.AH 1 (.t 2)),og 12 10 true (.load none (.t 11)),og 13 10 true (.AH 1 (.t 3)),og 14 10 true (.load none (.t 13)),og 15 10 true (.eqn false .bool (.t 12) (.t 14)),bzb 16 10 15,by8 17 16,og 18 17 true (.AH 2 (.t 2)),og 19 17 true (.load none (.t 18)),og 20 17 true (.AH 2 (.t 3)),og 21 17 true (.load none (.t 20)),og 22 17 true (.eqn false .bool (.t 19) (.t 21)),bzb 23 17 22,by8 24 23,og 25 24 true (.AH 3 (.t 2)),og 26 24 true (.load (some 5) (.t 25)),og 27 24 true (.AH 3 (.t 3)),og 28 24 true (.load (some 5) (.t 27)),og 29 24 true (.call false FX [(.t 26),(.t 28)]),bzb 30 24 29,by8 31 30,og 32 31 true (.AH 8 (.t 2)),og 33 31 true (.load (some 5) (.t 32)),og 34 31 true (.AH 8 (.t 3)),og 35 31 true (.load (some 5) (.t 34)),og 36 31 true (.call false FX [(.t 33),(.t 35)]),bzb 37 31 36,by8 38 37,og 39 38 true (.AH 13 (.t 2)),og 40 38 true (.load none (.t 39)),og 41 38 true (.AH 13 (.t 3)),og 42 38 true (.load none (.t 41)),og 43 38 true (.eqn false .bool (.t 40) (.t 42)),bzb 44 38 43,by8 45 44,og 46 45 true (.AH 14 (.t 2)),og 47 45 true (.load none (.t 46)),og 48 45 true (.AH 14 (.t 3)),og 49 45 true (.load none (.t 48)),og 50 45 true (.bin .eql (.t 47) (.t 49)),bzb 51 45 50,bze 4 51] [4]
def aG:AD:=(.seq LI (.seq LH .ret))
def jG:AP:=⟨2,[.t 4],aG⟩
def a_d7:=zzy (zzz 1 [LH,LI])
def Js:=rg [
oo 1 (.box 15 (.t 0)),oo 2 (.alloc [(.int .i64 0),(.bool false),(.bool false),(.bool false),(.int .i64 0),(.int .i64 0),.AB,.AB,(.bool false),(.int .i64 0),(.int .i64 0),.AB,.AB,(.bool false),(.int .i64 0)])] [1,2]
def Jr:=rg [
byy 3 0 1,by6 4 3,byy 5 1 1,by6 6 5,byy 7 2 1,by6 8 7,byy 9 3 1,by7 10 5 9,byy 11 8 1,by7 12 5 11,byy 13 13 1,by6 14 13,byy 15 14 1,by6 16 15,oo 17 (.build [(.int .i64 0),(.bool false),(.bool false),(.bool false),(.int .i64 0),(.int .i64 0),.AB,.AB,(.bool false),(.int .i64 0),(.int .i64 0),.AB,.AB,(.bool false),(.int .i64 0)] [(0,1,(.t 4)),(1,1,(.t 6)),(2,1,(.t 8)),(3,5,(.t 10)),(8,5,(.t 12)),(13,1,(.t 14)),(14,1,(.t 16))]),bzd 15 2 17] [2]
def Zw:AD:=(.seq Js (.seq Jr .ret))
def iH:AP:=⟨1,[.cell 2 (some 15)],Zw⟩
def a_ej:=zzy (zzz 1 [Jr,Js])
def Mf:=rg [
oo 3 (.box 6 (.t 0)),oo 4 (.box 5 (.t 1)),oo 6 (.alloc [(.int .i64 0),.AB,.AB,(.int .i64 0),(.int .i64 0),(.int .i64 0)])] [2,3,4,6]
def Me:=rg [
byy 7 0 3,by6 8 7] [2,3,4,6,8]
def Md:=rg [
byv 10 .eql 8 10,bze 9 10] [2,3,4,6,8,9]
def Mc:=rg [
byy 11 2 3,by6 12 11,oo 13 (.C6 6 (.t 12) (ci 0)),by7 14 6 13,bzd 6 6 14] [6]
def Mb:=rg [
byv 16 .eql 8 11,bze 15 16] [2,3,4,6,8,15]
def Ma:=rg [
byy 17 2 3,by6 18 17,by8 19 2,byv 20 .rem 19 2,by3 21 6 18 20,by7 22 6 21,bzd 6 6 22] [6]
def MZ:=rg [
byv 24 .eql 8 13,bze 23 24] [2,3,4,6,23]
def MY:=rg [
byy 25 2 3,by6 26 25,byy 27 1 4,by6 28 27,by3 29 6 26 28,by7 30 6 29,bzd 6 6 30] [6]
def MX:=rg [
byy 31 2 3,by6 32 31,by8 33 2,by3 34 6 32 33,by7 35 6 34,bzd 6 6 35] [6]
def SO:AD:=(.seq Mf (.seq (.seq Me (.block 0 (.seq Md (.cond (.t 9) (.seq Mc .ret) (.seq Mb (.cond (.t 15) (.seq Ma .ret) (.seq MZ (.cond (.t 23) (.seq MY .ret) .skip)))))))) (.seq MX .ret)))
def jV:AP:=⟨3,[.cell 6 (some 6)],SO⟩
def a_bx:=zzy (zzz 8 [MX,MY,MZ,Ma,Mb,Mc,Md,Me,Mf])
def NY:=rg [
byu 2 0] [0]
def NX:=rg [
byu 3 0] [0,3]
def NW:=rg [
byu 4 0] [0,3,4]
def bjb:=rg [
by8 5 4,by8 6 0,by5 7 false 6,byw 8 .lss 5 7] [0,3,4,8]
def bja:=rg [
by8 11 0,by8 12 4,by3 13 1 11 12,by6 14 13,oo 15 (.bin .shr (.t 14) (.c (.int .u64 6))),oo 16 (.bin .neq (.t 15) (.c (.int .u8 2)))] [0,3,4,16]
def bi9:=rg [
by8 17 3,byv 18 .add 17 1,bze 3 18] [0,3,4]
def bi8:=rg [
by8 9 4,byv 10 .add 9 1,bze 4 10] [0,3,4]
def btw:AD:=(.seq (.seq bjb (.cond (.t 8) .skip (.exit 0))) (.seq (.block 1 (.seq bja (.cond (.t 16) bi9 .skip))) bi8))
def bvx:=by1 btw.eq_1
def VW:=rg [
by8 19 3,bze 2 19] [2]
def aS:AD:=(.seq NY (.seq NX (.seq (.seq NW (.block 0 (.loop btw))) (.seq VW .ret))))
def kD:AP:=⟨1,[.t 2],aS⟩
def a_bn:=zzy (zzz 6 [bi8,.ret,.ret,bjb,NW,NX,NY]++[(7,[2]),(4,[0,3,4]),(5,[0,3,4,16])])
def LK:=rg [
byt 2 false] [0]
def LJ:=rg [
by8 3 0,byv 4 .neq 3 10,by8 5 4,by0 6 5 true 0,og 7 5 true (.bin .neq (.t 6) (ci 11)),bzb 8 5 7,by8 9 8,by0 10 9 true 0,og 11 9 true (.bin .neq (.t 10) (ci 12)),bzb 12 9 11,by8 13 12,by0 14 13 true 0,og 15 13 true (.bin .neq (.t 14) (ci 13)),bzb 16 13 15,bze 2 16] [2]
def aH:AD:=(.seq LK (.seq LJ .ret))
def jH:AP:=⟨1,[.t 2],aH⟩
def a_d6:=zzy (zzz 1 [LJ,LK])
def KD:=rg [
byt 4 false] [0,1]
def KC:=rg [
by8 5 0,oo 6 (.bin .geq (.t 5) (ci (-1099511627776))),by8 7 6,by0 8 7 true 0,og 9 7 true (.bin .leq (.t 8) (ci 1099511627776)),bzb 10 7 9,by8 11 10,by0 12 11 true 1,og 13 11 true (.bin .geq (.t 12) (ci 0)),bzb 14 11 13,by8 15 14,by0 16 15 true 1,og 17 15 true (.bin .lss (.t 16) (ci 1000000000)),bzb 18 15 17,bze 4 18] [4]
def Z2:AD:=(.seq KD (.seq KC .ret))
def iO:AP:=⟨2,[.t 4],Z2⟩
def a_dx:=zzy (zzz 1 [KC,KD])
def Mr:=rg [
oo 2 (.asg (.c (.str [])))] [0]
def Mq:=rg [
by8 4 0,oo 5 (.bin .rem (.t 4) (.c (.int .u64 10))),oo 6 (.bin .add (.c (.int .u64 48)) (.t 5)),oo 7 (.Aj .u8 (.t 6)),oo 8 (.lit false 1 1 (.int .u8 0) [(0,(.t 7))]),oo 9 (.b2s (.t 8)),bze 3 9] [0,3]
def bi1:=rg [
by8 10 0,oo 11 (.bin .geq (.t 10) (.c (.int .u64 10)))] [0,3,11]
def bi0:=rg [
by8 12 0,oo 13 (.bin .quo (.t 12) (.c (.int .u64 10))),bze 0 13] [0,3]
def biz:=rg [
by8 14 0,oo 15 (.bin .rem (.t 14) (.c (.int .u64 10))),oo 16 (.bin .add (.c (.int .u64 48)) (.t 15)),oo 17 (.Aj .u8 (.t 16)),oo 18 (.lit false 1 1 (.int .u8 0) [(0,(.t 17))]),oo 19 (.b2s (.t 18)),by8 20 3,byw 21 .add 19 20,bze 3 21] [0,3]
def btv:AD:=(.seq (.seq bi1 (.cond (.t 11) .skip (.exit 0))) (.block 1 (.seq bi0 biz)))
def bvy:=by1 btv.eq_1
def biy:=rg [
by8 22 3,bze 2 22] [2]
def aP:AD:=(.seq Mr (.seq Mq (.seq (.block 0 (.loop btv)) (.seq biy .ret))))
def jX:AP:=⟨1,[.t 2],aP⟩
def a_bu:=zzy (zzz 4 [biz,bi0,bi1,Mq,Mr]++[(5,[2])])
def LO:=rg [
oo 2 (.asg (.c (.int .u64 0)))] [0]
def LN:=rg [
by8 3 0,byv 4 .lss 3 0] [0,4]
def LM:=rg [
by8 5 0,byv 6 .add 5 1,oo 7 (.bin .sub (ci 0) (.t 6)),oo 8 (.Aj .u64 (.t 7)),oo 9 (.bin .add (.t 8) (.c (.int .u64 1))),bze 2 9] [2]
def LL:=rg [
by8 10 0,oo 11 (.Aj .u64 (.t 10)),bze 2 11] [2]
def aI:AD:=(.seq LO (.seq LN (.cond (.t 4) (.seq LM .ret) (.seq LL .ret))))
def jI:AP:=⟨1,[.t 2],aI⟩
def a_cy:=zzy (zzz 3 [LL,LM,LN,LO])
def KT:=rg [
byu 2 0] [0]
def KS:=rg [
by8 3 0,byx 4 Rv [(.t 3)],byx 5 Rw [(.t 4)],by5 6 true 5,bze 2 6] [2]
def Z8:AD:=(.seq KT (.seq KS .ret))
def iV:AP:=⟨1,[.t 2],Z8⟩
def a_dn:=zzy (zzz 1 [KS,KT])
def QH:=rg [
oo 3 (.box 6 (.t 0)),byt 6 false] [1,2,3]
def QG:=rg [
by8 7 2,byv 8 .neq 7 0,by8 9 8,og 10 9 true (.AH 0 (.t 3)),og 11 9 true (.load none (.t 10)),og 12 9 true (.bin .neq (.t 11) (ci 9)),bzb 13 9 12] [1,2,3,13]
def QF:=rg [
byt 6 false] [6]
def QE:=rg [
byy 14 0 3,by6 15 14] [1,2,3,15]
def QD:=rg [
byv 17 .eql 15 0,bze 16 17] [1,2,3,15,16]
def QC:=rg [
by8 18 1,byv 19 .eql 18 0,by8 20 19,by0 21 20 false 1,og 22 20 false (.bin .eql (.t 21) (ci 1)),bzc 23 20 22,bze 6 23] [6]
def QB:=rg [
byv 25 .eql 15 1,bze 24 25] [1,2,3,15,24]
def QA:=rg [
by8 26 1,oo 27 (.bin .geq (.t 26) (ci (-128))),by8 28 27,by0 29 28 true 1,og 30 28 true (.bin .leq (.t 29) (ci 127)),bzb 31 28 30,bze 6 31] [6]
def P9:=rg [
byv 33 .eql 15 2,bze 32 33] [1,2,3,15,32]
def P8:=rg [
by8 34 1,oo 35 (.bin .geq (.t 34) (ci (-32768))),by8 36 35,by0 37 36 true 1,og 38 36 true (.bin .leq (.t 37) (ci 32767)),bzb 39 36 38,bze 6 39] [6]
def bm0:=rg [
byv 41 .eql 15 3,bze 40 41] [1,2,3,15,40]
def bmz:=rg [
byv 42 .eql 15 15,bze 40 42] [1,2,3,15,40]
def bmy:=rg [
by8 43 1,oo 44 (.bin .geq (.t 43) (ci (-2147483648))),by8 45 44,by0 46 45 true 1,og 47 45 true (.bin .leq (.t 46) (ci 2147483647)),bzb 48 45 47,bze 6 48] [6]
def bmx:=rg [
byv 50 .eql 15 4,bze 49 50] [1,2,3,15,49]
def bmw:=rg [
byt 6 true] [6]
def bmv:=rg [
byv 52 .eql 15 14,bze 51 52] [1,2,3,15,51]
@[go_sem] def afr:Ops:=[
by8 53 1,byx 54 TY [(.t 53)],byy 55 4 3,by6 56 55,byw 57 .leq 54 56,bze 6 57]
def afs:List (Nat×Nat):=[(0,2),(1,2),(0,3),(1,3)]
def bmu:AD:= .region afr afs [6]
@[go_sem] theorem r_ak_16_u:Gu X K s bmu afs afr [6]:=Ab _ _ _ _
def bmt:=rg [
byv 59 .eql 15 9,bze 58 59] [1,2,3,15,58]
def bms:=rg [
by8 60 1,by8 61 2,byx 62 TV [(.t 60),(.t 61)],bze 6 62] [6]
def bmr:=rg [
byv 64 .eql 15 13,bze 63 64] [1,3,63]
def bmq:=rg [
by8 65 1,byv 66 .geq 65 0,by8 67 66,by0 68 67 true 1,og 69 67 true (.AH 2 (.t 3)),og 70 67 true (.load none (.t 69)),og 71 67 true (.len false (.t 70)),og 72 67 true (.bin .lss (.t 68) (.t 71)),bzb 73 67 72,bze 6 73] [6]
def bmp:=rg [
by8 74 1,byv 75 .eql 74 0,bze 6 75] [6]
def bA:AD:=(.seq QH (.seq QG (.cond (.t 13) (.seq QF .ret) (.seq (.seq QE (.block 0 (.seq QD (.cond (.t 16) (.seq QC .ret) (.seq QB (.cond (.t 24) (.seq QA .ret) (.seq P9 (.cond (.t 32) (.seq P8 .ret) (.seq (.seq bm0 (.cond (.t 40) .skip bmz)) (.cond (.t 40) (.seq bmy .ret) (.seq bmx (.cond (.t 49) (.seq bmw .ret) (.seq bmv (.cond (.t 51) (.seq bmu .ret) (.seq bmt (.cond (.t 58) (.seq bms .ret) (.seq bmr (.cond (.t 63) (.seq bmq .ret) .skip)))))))))))))))))) (.seq bmp .ret)))))
def kZ:AP:=⟨3,[.t 6],bA⟩
def a_ak:=zzy (zzz 21 [bmp,bmq,bmr,bms,bmt,.ret,bmv,bmw,bmx,bmy,bmz,bm0,P8,P9,QA,QB,QC,QD,QE,QF,QG,QH]++[(16,[6])])
def Qo:=rg [
oo 2 (.box 6 (.t 0)),oo 3 (.box 5 (.t 1)),byu 4 0] [2,3]
def Qn:=rg [
byy 8 0 3,by6 9 8] [2,3,9]
def Qm:=rg [
byy 10 1 3,by6 11 10,byv 12 .neq 11 0,by8 13 12,og 14 13 false (.AH 2 (.t 3)),og 15 13 false (.load none (.t 14)),og 16 13 false (.bin .neq (.t 15) (ci 0)),bzc 17 13 16,by8 18 17,og 19 18 false (.AH 3 (.t 3)),og 20 18 false (.load none (.t 19)),og 21 18 false (.len false (.t 20)),og 22 18 false (.bin .gtr (.t 21) (ci 0)),bzc 23 18 22,by8 24 23,og 25 24 false (.AH 4 (.t 3)),og 26 24 false (.load none (.t 25)),og 27 24 false (.len false (.t 26)),og 28 24 false (.bin .gtr (.t 27) (ci 0)),bzc 29 24 28] [29]
def Ql:=rg [
byu 4 1] [4]
def Qk:=rg [
byu 4 0] [4]
def Qj:=rg [
by7 30 6 2,byy 31 1 3,by6 32 31,byy 33 2 3,by6 34 33,byx 35 R5 [(.t 30),(.t 32),(.t 34)],bza 36 35,by8 37 36,og 38 37 false (.AH 3 (.t 3)),og 39 37 false (.load none (.t 38)),og 40 37 false (.len false (.t 39)),og 41 37 false (.bin .gtr (.t 40) (ci 0)),by0 42 37 false 41,og 43 42 true (.AH 0 (.t 2)),og 44 42 true (.load none (.t 43)),og 45 42 true (.call false Rp [(.t 44)]),og 46 42 true (.un .not (.t 45)),og 47 37 false (.pick (.t 42) (.t 46) (.c (.bool false))),bzc 48 37 47,by8 49 48,og 50 49 false (.AH 4 (.t 3)),og 51 49 false (.load none (.t 50)),og 52 49 false (.len false (.t 51)),og 53 49 false (.bin .gtr (.t 52) (ci 0)),by0 54 49 false 53,og 55 54 true (.AH 0 (.t 2)),og 56 54 true (.load none (.t 55)),og 57 54 true (.call false Ru [(.t 56)]),og 58 49 false (.pick (.t 54) (.t 57) (.c (.bool false))),bzc 59 49 58] [2,3,59]
def Qi:=rg [
byu 4 1] [4]
@[go_sem] def bb4:Ops:=[
byy 60 3 3,by6 61 60,by5 62 false 61,byv 63 .gtr 62 4096,by8 64 63,og 65 64 false (.AH 0 (.t 2)),og 66 64 false (.load none (.t 65)),og 67 64 false (.bin .eql (.t 66) (ci 16)),by0 68 64 false 67,og 69 68 false (.AH 0 (.t 2)),og 70 68 false (.load none (.t 69)),og 71 68 false (.bin .eql (.t 70) (ci 17)),og 72 64 false (.pick (.t 68) (.c (.bool true)) (.t 71)),by0 73 64 false 72,og 74 73 true (.AH 3 (.t 3)),og 75 73 true (.load none (.t 74)),og 76 73 true (.call false Tr [(.t 75)]),og 77 73 true (.AH 3 (.t 2)),og 78 73 true (.load none (.t 77)),og 79 73 true (.bin .gtr (.t 76) (.t 78)),og 80 64 false (.pick (.t 73) (.t 79) (.c (.bool false))),bzc 81 64 80]
def bb5:List (Nat×Nat):=[(14,17),(15,17),(16,17),(14,18),(15,18),(16,18)]
def Vg:AD:= .region bb4 bb5 [2,3,81]
@[go_sem] theorem r_ag_7_u:Gu X K s Vg bb5 bb4 [2,3,81]:=Ab _ _ _ _
def Qh:=rg [
byu 4 4] [4]
def Qg:=rg [
byy 82 4 3,by6 83 82,by5 84 false 83,bze 5 84] [2,3,5]
def boy:=rg [
byy 85 0 2,by6 86 85] [2,3,5,86]
def bow:=rg [
byv 88 .eql 86 10,bze 87 88] [2,3,5,86,87]
def bov:=rg [
by8 89 5,byv 90 .gtr 89 16384] [2,3,5,90]
def bou:=rg [
byu 4 4] [4]
def bot:=rg [
byv 92 .eql 86 11,bze 91 92] [2,3,5,86,91]
def bos:=rg [
by8 93 5,byv 94 .rem 93 2,byv 95 .neq 94 0] [2,3,5,95]
def boq:=rg [
byu 4 1] [4]
def bop:=rg [
by8 96 5,byv 97 .gtr 96 32768] [2,3,5,97]
def boo:=rg [
byu 4 4] [4]
def bon:=rg [
byv 99 .eql 86 12,bze 98 99] [2,3,5,86,98]
def bom:=rg [
by8 100 5,byy 101 2 2,by6 102 101,by5 103 false 102,byw 104 .neq 100 103] [2,3,5,104]
def bol:=rg [
byu 4 1] [4]
def bok:=rg [
byv 106 .eql 86 13,bze 105 106] [2,3,5,105]
def boj:=rg [
by8 107 5,byv 108 .neq 107 1] [2,3,5,108]
def boi:=rg [
byu 4 1] [4]
def boh:=rg [
byu 6 0] [2,3,5,6]
def ar4:=rg [
by8 109 6,by8 110 5,byw 111 .lss 109 110] [2,3,5,6,111]
def ar3:=rg [
byy 114 0 2,by6 115 114,byv 116 .eql 115 11,by8 117 116,by0 118 117 true 6,og 119 117 true (.bin .rem (.t 118) (ci 2)),og 120 117 true (.bin .eql (.t 119) (ci 0)),bzb 121 117 120,by8 122 121,og 123 122 true (.AH 4 (.t 3)),og 124 122 true (.load none (.t 123)),by0 125 122 true 6,og 126 122 true (.C6 5 (.t 124) (.t 125)),og 127 122 true (.AH 0 (.t 126)),og 128 122 true (.load none (.t 127)),bzb 129 122 128] [2,3,5,6,129]
def ar2:=rg [
byu 4 1] [4]
@[go_sem] def ahm:Ops:=[
by7 130 6 2,by7 131 5 3,by8 132 6,byx 133 Tm [(.t 130),(.t 131),(.t 132)],byy 134 4 3,by6 135 134,by8 136 6,by3 137 5 135 136,by7 138 5 137,byx 139 Fy [(.t 133),(.t 138)],bze 7 139]
def ahn:List (Nat×Nat):=[(0,1),(0,2),(1,2),(0,4),(1,4),(2,4),(3,4),(0,5),(1,5),(2,5),(3,5),(0,6),(1,6),(2,6),(3,6),(4,6),(5,6),(0,7),(1,7),(2,7),(3,7),(0,8),(1,8),(2,8),(3,8)]
def ar1:AD:= .region ahm ahn [2,3,5,6,7]
@[go_sem] theorem r_ag_29_u:Gu X K s ar1 ahn ahm [2,3,5,6,7]:=Ab _ _ _ _
def ar0:=rg [
by8 140 7,byv 141 .neq 140 0] [2,3,5,6,7,141]
def arz:=rg [
by8 142 7,bze 4 142] [4]
def ary:=rg [
by8 112 6,byv 113 .add 112 1,bze 6 113] [2,3,5,6]
def av5:AD:=(.seq (.seq ar4 (.cond (.t 111) .skip (.exit 1))) (.seq (.block 2 (.seq (.seq ar3 (.cond (.t 129) (.seq ar2 .ret) .skip)) (.seq ar1 (.seq ar0 (.cond (.t 141) (.seq arz .ret) .skip))))) ary))
def bvz:=by1 av5.eq_1
def arx:=rg [
byu 4 0] [4]
def UK:AD:=(.seq Qo (.seq Qn (.cond (.t 9) (.seq (.seq Qm (.cond (.t 29) (.seq Ql .ret) .skip)) (.seq Qk .ret)) (.seq Qj (.cond (.t 59) (.seq Qi .ret) (.seq Vg (.cond (.t 81) (.seq Qh .ret) (.seq Qg (.seq (.seq boy (.block 0 (.seq bow (.cond (.t 87) (.seq bov (.cond (.t 90) (.seq bou .ret) .skip)) (.seq bot (.cond (.t 91) (.seq (.seq bos (.cond (.t 95) (.seq boq .ret) .skip)) (.seq bop (.cond (.t 97) (.seq boo .ret) .skip))) (.seq bon (.cond (.t 98) (.seq bom (.cond (.t 104) (.seq bol .ret) .skip)) (.seq bok (.cond (.t 105) (.seq boj (.cond (.t 108) (.seq boi .ret) .skip)) .skip)))))))))) (.seq (.seq boh (.block 1 (.loop av5))) (.seq arx .ret)))))))))))
def lD:AP:=⟨2,[.t 4],UK⟩
def a_ag:=zzy (zzz 26 [ar4,boh,boi,boj,bok,bol,bom,bon,boo,bop,boq,bos,bot,bou,bov,bow,boy,Qg,Qh,.ret,Qi,Qj,Qk,Ql,Qm,Qn,Qo]++[(33,[4]),(27,[2,3,5,6]),(32,[4]),(31,[2,3,5,6,7,141]),(30,[2,3,5,6,7]),(29,[4]),(28,[2,3,5,6,129]),(7,[2,3,81])])
def Km:=rg [
byu 4 0,byt 5 false] [0,1]
def Kl:=rg [
by8 6 1,byv 7 .gtr 6 0,by8 8 7,by0 9 8 true 0,by0 10 8 true 1,og 11 8 true (.bin .sub (ci 9223372036854775807) (.t 10)),og 12 8 true (.bin .gtr (.t 9) (.t 11)),bzb 13 8 12,by8 14 13,by0 15 14 false 1,og 16 14 false (.bin .lss (.t 15) (ci 0)),by0 17 14 false 16,by0 18 17 true 0,by0 19 17 true 1,og 20 17 true (.bin .sub (ci (-9223372036854775808)) (.t 19)),og 21 17 true (.bin .lss (.t 18) (.t 20)),og 22 14 false (.pick (.t 17) (.t 21) (.c (.bool false))),bzc 23 14 22] [0,1,23]
def Kk:=rg [
byu 4 0,byt 5 false] [4,5]
def Kj:=rg [
by8 24 0,by8 25 1,byw 26 .add 24 25,bze 4 26,byt 5 true] [4,5]
def IY:AD:=(.seq Km (.seq Kl (.cond (.t 23) (.seq Kk .ret) (.seq Kj .ret))))
def jA:AP:=⟨2,[.t 4,.t 5],IY⟩
def a_dh:=zzy (zzz 3 [Kj,Kk,Kl,Km])
def Ki:=rg [
oo 2 (.asg (.c (.int .u64 0)))] [0]
def Kh:=rg [
by8 3 0,byv 4 .lss 3 0] [0,4]
def Kg:=rg [
by8 5 0,byv 6 .add 5 1,oo 7 (.bin .sub (ci 0) (.t 6)),oo 8 (.Aj .u64 (.t 7)),oo 9 (.bin .add (.t 8) (.c (.int .u64 1))),bze 2 9] [2]
def Ke:=rg [
by8 10 0,oo 11 (.Aj .u64 (.t 10)),bze 2 11] [2]
def aB:AD:=(.seq Ki (.seq Kh (.cond (.t 4) (.seq Kg .ret) (.seq Ke .ret))))
def iZ:AP:=⟨1,[.t 2],aB⟩
def a_di:=zzy (zzz 3 [Ke,Kg,Kh,Ki])
def Mo:=rg [
byu 4 0,byt 5 false] [0,1]
def Mn:=rg [
by8 9 0,byx 10 Rq [(.t 9)],bze 6 10] [0,1,6]
def Mm:=rg [
by8 11 1,byx 12 Rq [(.t 11)],bze 7 12] [0,1,6,7]
def Ml:=rg [
oo 8 (.asg (.c (.int .u64 9223372036854775807)))] [0,1,6,7,8]
def Mk:=rg [
by8 13 0,byv 14 .lss 13 0,by8 15 1,byv 16 .lss 15 0,oo 17 (.eqn true .bool (.t 14) (.t 16))] [0,1,6,7,8,17]
def Mj:=rg [
by8 18 8,oo 19 (.bin .add (.t 18) (.c (.int .u64 1))),bze 8 19] [0,1,6,7,8]
def Mi:=rg [
by8 20 6,oo 21 (.bin .neq (.t 20) (.c (.int .u64 0))),by8 22 21,by0 23 22 true 7,by0 24 22 true 8,by0 25 22 true 6,og 26 22 true (.bin .quo (.t 24) (.t 25)),og 27 22 true (.bin .gtr (.t 23) (.t 26)),bzb 28 22 27] [0,1,28]
def Mh:=rg [
byu 4 0,byt 5 false] [4,5]
def Mg:=rg [
by8 29 0,by8 30 1,byw 31 .mul 29 30,bze 4 31,byt 5 true] [4,5]
def F7:AD:=(.seq Mo (.seq Mn (.seq Mm (.seq Ml (.seq (.seq Mk (.cond (.t 17) Mj .skip)) (.seq Mi (.cond (.t 28) (.seq Mh .ret) (.seq Mg .ret))))))))
def jW:AP:=⟨2,[.t 4,.t 5],F7⟩
def a_bw:=zzy (zzz 8 [Mg,Mh,Mi,Mj,Mk,Ml,Mm,Mn,Mo])
def RF:=rg [
byu 4 0,byu 5 0] [0,1]
def RE:=rg [
byt 6 false] [0,1,6]
def RD:=rg [
by8 18 0,by5 19 true 18,byv 20 .gtr 19 0,by8 21 20,by0 22 21 true 0,og 23 21 true (.GZ (.t 22) (ci 0)),og 24 21 true (.bin .eql (.t 23) (.c (.int .u8 45))),bzb 25 21 24] [0,1,6,25]
def RC:=rg [
byt 6 true] [0,1,6]
def RB:=rg [
by8 26 0,oo 27 (.CK (.t 26) (some (ci 1)) none),bze 0 27] [0,1,6]
def bp8:=rg [
byu 7 0] [0,1,6,7]
def bp7:=rg [
byu 8 0] [0,1,6,7,8]
def bp6:=rg [
byt 9 false] [0,1,6,7,8,9]
def bp5:=rg [
byu 10 0] [0,1,6,7,8,9,10]
def bp4:=rg [
by8 28 10,by8 29 0,by5 30 true 29,byw 31 .lss 28 30] [0,1,6,7,8,9,10,31]
def asw:=rg [
by8 37 0,by8 38 10,oo 39 (.GZ (.t 37) (.t 38)),oo 40 (.bin .eql (.t 39) (.c (.int .u8 46))),by8 41 40,by0 42 41 true 9,og 43 41 true (.un .not (.t 42)),bzb 44 41 43,bze 36 44] [0,1,6,7,8,9,10,36]
def asv:=rg [
byt 9 true] [0,1,6,7,8,9,10]
def asu:=rg [
by8 46 0,by8 47 10,oo 48 (.GZ (.t 46) (.t 47)),oo 49 (.bin .lss (.t 48) (.c (.int .u8 48))),by8 50 49,by0 51 50 false 0,by0 52 50 false 10,og 53 50 false (.GZ (.t 51) (.t 52)),og 54 50 false (.bin .gtr (.t 53) (.c (.int .u8 57))),bzc 55 50 54,bze 45 55] [0,1,6,7,8,9,10,45]
def ast:=rg [
byu 4 0,byu 5 2] [4,5]
def ass:=rg [
by8 57 9,bze 56 57] [0,1,6,7,8,9,10,56]
def asr:=rg [
by8 58 8,byv 59 .add 58 1,bze 8 59] [0,1,6,7,8,9,10]
def asq:=rg [
by8 34 7,byv 35 .add 34 1,bze 7 35] [0,1,6,7,8,9,10]
def asp:=rg [
by8 32 10,byv 33 .add 32 1,bze 10 33] [0,1,6,7,8,9,10]
def aab:AD:=(.seq (.seq bp4 (.cond (.t 31) .skip (.exit 0))) (.seq (.block 1 (.block 2 (.seq asw (.cond (.t 36) asv (.seq asu (.cond (.t 45) (.seq ast .ret) (.seq ass (.cond (.t 56) asr asq)))))))) asp))
def bv0:=by1 aab.eq_1
def aso:=rg [
by8 60 7,byv 61 .eql 60 0,by8 62 61,by0 63 62 false 9,by0 64 62 false 63,by0 65 64 true 8,og 66 64 true (.bin .eql (.t 65) (ci 0)),og 67 62 false (.pick (.t 64) (.t 66) (.c (.bool false))),bzc 68 62 67] [0,1,6,8,68]
def asn:=rg [
byu 4 0,byu 5 2] [4,5]
def y9:=rg [
by8 69 8,by8 70 1,byw 71 .gtr 69 70] [0,1,6,8,71]
def y8:=rg [
byu 4 0,byu 5 4] [4,5]
def y7:=rg [
byu 11 0] [0,1,6,8,11]
def yz:=rg [
byu 12 0] [0,1,6,8,11,12]
def asm:=rg [
by8 72 12,by8 73 0,by5 74 true 73,by8 75 1,byw 76 .add 74 75,by8 77 8,byw 78 .sub 76 77,byw 79 .lss 72 78] [0,1,6,8,11,12,79]
def asl:=rg [
byu 13 0] [0,1,6,8,11,12,13]
def ask:=rg [
by8 82 12,by8 83 0,by5 84 true 83,byw 85 .lss 82 84] [0,1,6,8,11,12,13,85]
def asj:=rg [
by8 86 0,by8 87 12,oo 88 (.GZ (.t 86) (.t 87)),oo 89 (.bin .eql (.t 88) (.c (.int .u8 46)))] [0,1,6,8,11,12,89]
def asi:=rg [
by8 90 0,by8 91 12,oo 92 (.GZ (.t 90) (.t 91)),oo 93 (.bin .sub (.t 92) (.c (.int .u8 48))),oo 94 (.Aj .i64 (.t 93)),bze 13 94] [0,1,6,8,11,12,13]
def yy:=rg [
by8 96 11,byx 97 Tn [(.t 96),(ci 10)],by8 95 97,bzf 98 95 0,bzf 99 95 1,bze 14 98,bze 15 99] [0,1,6,8,12,13,14,15]
def yw:=rg [
by8 100 6] [0,1,6,8,12,13,14,15,100]
def yu:=rg [
by8 101 13,oo 102 (.bin .sub (ci 0) (.t 101)),bze 13 102] [0,1,6,8,12,13,14,15]
def yt:=rg [
by8 104 14,by8 105 13,byx 106 Tb [(.t 104),(.t 105)],by8 103 106,bzf 107 103 0,bzf 108 103 1,bze 16 107,bze 17 108] [0,1,6,8,12,15,16,17]
def yr:=rg [
by8 109 15,bza 110 109,by8 111 110,by0 112 111 false 17,og 113 111 false (.un .not (.t 112)),bzc 114 111 113] [0,1,6,8,12,16,114]
def yp:=rg [
byu 4 0,byu 5 4] [4,5]
def yo:=rg [
by8 115 16,bze 11 115] [0,1,6,8,11,12]
def yn:=rg [
by8 80 12,byv 81 .add 80 1,bze 12 81] [0,1,6,8,11,12]
def rp:AD:=(.seq (.seq asm (.cond (.t 79) .skip (.exit 3))) (.seq (.block 4 (.seq asl (.seq (.seq ask (.cond (.t 85) (.seq (.seq asj (.cond (.t 89) (.exit 4) .skip)) asi) .skip)) (.seq yy (.seq (.seq yw (.cond (.t 100) yu .skip)) (.seq yt (.seq (.seq yr (.cond (.t 114) (.seq yp .ret) .skip)) yo))))))) yn))
def bv1:=by1 rp.eq_1
def qq:=rg [
by8 116 11,bze 4 116,byu 5 0] [4,5]
def UL:AD:=(.seq RF (.seq RE (.seq (.seq RD (.cond (.t 25) (.seq RC RB) .skip)) (.seq bp8 (.seq bp7 (.seq bp6 (.seq (.seq bp5 (.block 0 (.loop aab))) (.seq aso (.cond (.t 68) (.seq asn .ret) (.seq y9 (.cond (.t 71) (.seq y8 .ret) (.seq y7 (.seq (.seq yz (.block 3 (.loop rp))) (.seq qq .ret))))))))))))))
def lG:AP:=⟨2,[.t 4,.t 5],UL⟩
def a_ac:=zzy (zzz 36 [yo,yp,yr,yt,yu,yw,yy,asi,asj,ask,asl,.ret,.ret,.ret,.ret,.ret,.ret,.ret,.ret,asp,.ret,.ret,.ret,.ret,.ret,asv,.ret,bp4,bp5,bp6,bp7,bp8,RB,RC,RD,RE,RF]++[(37,[4,5]),(25,[0,1,6,8,11,12]),(24,[0,1,6,8,11,12,79]),(23,[0,1,6,8,11,12]),(22,[0,1,6,8,11]),(21,[4,5]),(20,[0,1,6,8,71]),(19,[4,5]),(18,[0,1,6,8,68]),(10,[0,1,6,7,8,9,10]),(13,[0,1,6,7,8,9,10]),(15,[4,5]),(16,[0,1,6,7,8,9,10,56]),(14,[0,1,6,7,8,9,10,45]),(12,[0,1,6,7,8,9,10,36])])
def Pz:=rg [
oo 4 (.asg (.c .AB)),byu 5 0] [0,1]
def Py:=rg [
oo 6 (.asg (.c .AB))] [0,1,6]
def Px:=rg [
byu 7 0] [0,1,6,7]
def bmh:=rg [
by8 12 7,by8 13 0,by5 14 false 13,byw 15 .lss 12 14] [0,1,6,7,15]
def bmg:=rg [
by8 18 0,by8 19 7,by3 20 5 18 19,byy 21 0 20,by6 22 21,by8 23 1,byw 24 .neq 22 23] [0,1,6,7,24]
def bmf:=rg [
by8 25 0,by8 26 7,by3 27 5 25 26,byy 28 1 27,by6 29 28,byv 30 .eql 29 0] [0,1,6,7,30]
def bme:=rg [
by8 31 6,by8 32 0,by8 33 7,by3 34 5 32 33,byy 35 2 34,by6 36 35,oo 37 (.lit false 1 1 (.int .u64 0) [(0,(.t 36))]),oo 38 (.append 1 8 (.t 31) (.t 37)),bze 6 38] [0,1,6,7]
def bmd:=rg [
byu 8 0] [0,1,6,7,8]
def bmc:=rg [
by8 39 0,by8 40 7,by3 41 5 39 40,byy 42 1 41,by6 43 42,byv 44 .eql 43 2,by8 45 44,by0 46 45 true 8,by0 47 45 true 0,by0 48 45 true 7,og 49 45 true (.C6 5 (.t 47) (.t 48)),og 50 45 true (.AH 3 (.t 49)),og 51 45 true (.load none (.t 50)),og 52 45 true (.len false (.t 51)),og 53 45 true (.bin .lss (.t 46) (.t 52)),bzb 54 45 53] [0,1,6,7,8,54]
def bmb:=rg [
by8 56 0,by8 57 7,by3 58 5 56 57,byy 59 3 58,by6 60 59,by8 61 8,byx 62 HY [(.t 60),(.t 61)],by8 55 62,bzf 63 55 0,bzf 64 55 1,bzf 65 55 2,bze 9 63,bze 10 64,bze 11 65] [0,1,6,7,8,9,10,11]
def arw:=rg [
by8 66 11,byv 67 .neq 66 0] [0,1,6,7,8,9,10,11,67]
def arv:=rg [
by8 68 11,oo 4 (.asg (.c .AB)),bze 5 68] [4,5]
def aru:=rg [
by8 69 6,by8 70 9,oo 71 (.lit false 1 1 (.int .u64 0) [(0,(.t 70))]),oo 72 (.append 1 8 (.t 69) (.t 71)),bze 6 72] [0,1,6,7,8,10]
def art:=rg [
by8 73 8,by8 74 10,byw 75 .add 73 74,bze 8 75] [0,1,6,7,8]
def zz:AD:=(.seq (.seq bmc (.cond (.t 54) .skip (.exit 2))) (.block 3 (.seq bmb (.seq (.seq arw (.cond (.t 67) (.seq arv .ret) .skip)) (.seq aru art)))))
def bv2:=by1 zz.eq_1
def yl:=rg [
by8 16 7,byv 17 .add 16 1,bze 7 17] [0,1,6,7]
def vr:AD:=(.seq (.seq bmh (.cond (.t 15) .skip (.exit 0))) (.seq (.block 1 (.seq (.seq bmg (.cond (.t 24) (.exit 1) .skip)) (.seq (.seq bmf (.cond (.t 30) bme .skip)) (.seq bmd (.block 2 (.loop zz)))))) yl))
def bv3:=by1 vr.eq_1
def yk:=rg [
by8 76 6,bze 4 76,byu 5 0] [4,5]
def an:AD:=(.seq Pz (.seq Py (.seq (.seq Px (.block 0 (.loop vr))) (.seq yk .ret))))
def kX:AP:=⟨2,[.t 4,.t 5],an⟩
def a_am:AG:=⟨[38,72],zzz 3 [bmh,Px,Py,Pz]++[(15,[4,5]),(4,[0,1,6,7]),(14,[0,1,6,7,8]),(13,[0,1,6,7,8,10]),(12,[4,5]),(11,[0,1,6,7,8,9,10,11,67]),(10,[0,1,6,7,8,9,10,11]),(9,[0,1,6,7,8,54]),(8,[0,1,6,7,8]),(7,[0,1,6,7]),(6,[0,1,6,7,30]),(5,[0,1,6,7,24])],[],[],[],[]⟩
def K9:=rg [
byu 2 0] [0]
def K8:=rg [
by8 4 0,oo 5 (.bin .shr (.t 4) (.c (.int .u64 1))),oo 6 (.Aj .i64 (.t 5)),bze 3 6] [0,3]
def K7:=rg [
by8 7 0,oo 8 (.bin .and (.t 7) (.c (.int .u64 1))),oo 9 (.bin .eql (.t 8) (.c (.int .u64 1)))] [3,9]
def K6:=rg [
by8 10 3,oo 11 (.bin .sub (ci 0) (.t 10)),byv 12 .sub 11 1,bze 2 12] [2]
def K5:=rg [
by8 13 3,bze 2 13] [2]
def XK:AD:=(.seq K9 (.seq K8 (.seq K7 (.cond (.t 9) (.seq K6 .ret) (.seq K5 .ret)))))
def jD:AP:=⟨1,[.t 2],XK⟩
def a_db:=zzy (zzz 4 [K5,K6,K7,K8,K9])
def KN:=rg [
byu 4 0,byt 5 false] [0,1]
def KM:=rg [
by8 9 0,by8 10 1,byx 11 Gy [(.t 9),(.t 10)],by8 8 11,bzf 12 8 0,bzf 13 8 1,bze 6 12,bze 7 13] [6,7]
def KL:=rg [
by8 14 6,byx 15 Te [(.t 14)],by8 16 7,bze 4 15,bze 5 16] [4,5]
def Z6:AD:=(.seq KN (.seq KM (.seq KL .ret)))
def iS:AP:=⟨2,[.t 4,.t 5],Z6⟩
def a_dt:=zzy (zzz 2 [KL,KM,KN])
def LD:=rg [
byu 2 0,byu 3 0,byt 4 false,byt 5 false] [0]
def LC:=rg [
by8 11 0,byx 12 Gx [(.t 11),(ci 1)],by8 10 12,bzf 13 10 0,bzf 14 10 1,bze 6 13,bze 7 14] [0,6,7]
def LB:=rg [
by8 16 0,byx 17 Gx [(.t 16),(ci 2)],by8 15 17,bzf 18 15 0,bzf 19 15 1,bze 8 18,bze 9 19] [6,7,8,9]
def LA:=rg [
by8 20 6,by8 21 8,by8 22 7,by8 23 7,by8 24 9,oo 25 (.eqn false .bool (.t 23) (.t 24)),bze 2 20,bze 3 21,bze 4 22,bze 5 25] [2,3,4,5]
def aE:AD:=(.seq LD (.seq LC (.seq LB (.seq LA .ret))))
def jE:AP:=⟨1,[.t 2,.t 3,.t 4,.t 5],aE⟩
def a_da:=zzy (zzz 3 [LA,LB,LC,LD])
def N7:=rg [
oo 4 (.asg (.c .AB)),byt 5 false] [0,1]
def N6:=rg [
oo 6 (.asg (.c .AB))] [0,1,6]
def N5:=rg [
byt 7 false] [0,1,6,7]
def N4:=rg [
byu 8 0] [0,1,6,7,8]
def bj5:=rg [
by8 9 8,by8 10 0,by5 11 false 10,byw 12 .lss 9 11] [0,1,6,7,8,12]
def bj4:=rg [
by8 15 0,by8 16 8,by3 17 5 15 16,byy 18 0 17,by6 19 18,by8 20 1,byw 21 .eql 19 20,by8 22 21,by0 23 22 true 0,by0 24 22 true 8,og 25 22 true (.C6 5 (.t 23) (.t 24)),og 26 22 true (.AH 1 (.t 25)),og 27 22 true (.load none (.t 26)),og 28 22 true (.bin .eql (.t 27) (ci 2)),bzb 29 22 28] [0,1,6,7,8,29]
def bj3:=rg [
by8 30 0,by8 31 8,by3 32 5 30 31,byy 33 3 32,by6 34 33,bze 6 34] [0,1,6,8]
def bj2:=rg [
byt 7 true] [0,1,6,7,8]
def bj1:=rg [
by8 13 8,byv 14 .add 13 1,bze 8 14] [0,1,6,7,8]
def bty:AD:=(.seq (.seq bj5 (.cond (.t 12) .skip (.exit 0))) (.seq (.block 1 (.seq bj4 (.cond (.t 29) (.seq bj3 bj2) .skip))) bj1))
def bv4:=by1 bty.eq_1
def aqb:=rg [
by8 35 6,by8 36 7,bze 4 35,bze 5 36] [4,5]
def aW:AD:=(.seq N7 (.seq N6 (.seq N5 (.seq (.seq N4 (.block 0 (.loop bty))) (.seq aqb .ret)))))
def kI:AP:=⟨2,[.t 4,.t 5],aW⟩
def a_bb:=zzy (zzz 8 [bj1,.ret,.ret,.ret,bj5,N4,N5,N6,N7]++[(9,[4,5]),(5,[0,1,6,7,8]),(7,[0,1,6,8]),(6,[0,1,6,7,8,29])])
def Ob:=rg [
oo 4 (.asg (.c .AB)),byt 5 false,byu 6 0] [0,1]
def Oa:=rg [
by8 12 0,by8 13 1,byx 14 GX [(.t 12),(.t 13)],by8 11 14,bzf 15 11 0,bzf 16 11 1,bze 7 15,bze 8 16] [7,8]
def OZ:=rg [
by8 17 8,bza 18 17] [7,18]
def OY:=rg [
oo 4 (.asg (.c .AB)),byt 5 false,byu 6 0] [4,5,6]
def OX:=rg [
by8 20 7,byx 21 Rz [(.t 20)],by8 19 21,bzf 22 19 0,bzf 23 19 1,bze 9 22,bze 10 23] [9,10]
def OW:=rg [
by8 24 9,by8 25 10,bze 4 24,byt 5 true,bze 6 25] [4,5,6]
def XR:AD:=(.seq Ob (.seq Oa (.seq OZ (.cond (.t 18) (.seq OY .ret) (.seq OX (.seq OW .ret))))))
def kN:AP:=⟨2,[.t 4,.t 5,.t 6],XR⟩
def a_b5:=zzy (zzz 5 [OW,OX,OY,OZ,Oa,Ob])
def KK:=rg [
byt 2 false] [0]
def KJ:=rg [
by8 3 0,byv 4 .eql 3 7,by8 5 4,by0 6 5 false 0,og 7 5 false (.bin .eql (.t 6) (ci 16)),bzc 8 5 7,by8 9 8,by0 10 9 false 0,og 11 9 false (.bin .eql (.t 10) (ci 17)),bzc 12 9 11,by8 13 12,by0 14 13 false 0,og 15 13 false (.bin .eql (.t 14) (ci 8)),bzc 16 13 15,bze 2 16] [2]
def Z5:AD:=(.seq KK (.seq KJ .ret))
def iR:AP:=⟨1,[.t 2],Z5⟩
def a_du:=zzy (zzz 1 [KJ,KK])
def KI:=rg [
byt 2 false] [0]
def KH:=rg [
by8 3 0,byx 4 Rp [(.t 3)],by8 5 4,by0 6 5 true 0,og 7 5 true (.bin .neq (.t 6) (ci 8)),bzb 8 5 7,bze 2 8] [2]
def Z4:AD:=(.seq KI (.seq KH .ret))
def iQ:AP:=⟨1,[.t 2],Z4⟩
def a_dv:=zzy (zzz 1 [KH,KI])
def LG:=rg [
byt 2 false] [0]
def LF:=rg [
by8 3 0,byv 4 .geq 3 1,by8 5 4,by0 6 5 true 0,og 7 5 true (.bin .leq (.t 6) (ci 4)),bzb 8 5 7,bze 2 8] [2]
def aF:AD:=(.seq LG (.seq LF .ret))
def jF:AP:=⟨1,[.t 2],aF⟩
def a_d8:=zzy (zzz 1 [LF,LG])
def Ns:=rg [
oo 4 (.asg (.c (.int .u64 0))),byt 5 false] [0,1]
def Nr:=rg [
oo 6 (.asg (.c (.int .u64 0)))] [0,1,6]
def Nq:=rg [
byt 7 false] [0,1,6,7]
def Np:=rg [
byu 8 0] [0,1,6,7,8]
def bjo:=rg [
by8 9 8,by8 10 0,by5 11 false 10,byw 12 .lss 9 11] [0,1,6,7,8,12]
def bjn:=rg [
by8 15 0,by8 16 8,by3 17 5 15 16,byy 18 0 17,by6 19 18,by8 20 1,byw 21 .eql 19 20,by8 22 21,by0 23 22 true 0,by0 24 22 true 8,og 25 22 true (.C6 5 (.t 23) (.t 24)),og 26 22 true (.AH 1 (.t 25)),og 27 22 true (.load none (.t 26)),og 28 22 true (.bin .eql (.t 27) (ci 0)),bzb 29 22 28] [0,1,6,7,8,29]
def bjm:=rg [
by8 30 0,by8 31 8,by3 32 5 30 31,byy 33 2 32,by6 34 33,bze 6 34] [0,1,6,8]
def bjl:=rg [
byt 7 true] [0,1,6,7,8]
def bjk:=rg [
by8 13 8,byv 14 .add 13 1,bze 8 14] [0,1,6,7,8]
def btx:AD:=(.seq (.seq bjo (.cond (.t 12) .skip (.exit 0))) (.seq (.block 1 (.seq bjn (.cond (.t 29) (.seq bjm bjl) .skip))) bjk))
def bv5:=by1 btx.eq_1
def aqa:=rg [
by8 35 6,by8 36 7,bze 4 35,bze 5 36] [4,5]
def aU:AD:=(.seq Ns (.seq Nr (.seq Nq (.seq (.seq Np (.block 0 (.loop btx))) (.seq aqa .ret)))))
def kG:AP:=⟨2,[.t 4,.t 5],aU⟩
def a_bg:=zzy (zzz 8 [bjk,.ret,.ret,.ret,bjo,Np,Nq,Nr,Ns]++[(9,[4,5]),(5,[0,1,6,7,8]),(7,[0,1,6,8]),(6,[0,1,6,7,8,29])])
def Ox:=rg [
oo 4 (.asg (.c (.int .u64 0))),byu 5 0,byu 6 0] [0,1]
def Ow:=rg [
by8 10 1,byv 11 .lss 10 0,by8 12 11,by0 13 12 false 1,by0 14 12 false 0,og 15 12 false (.len false (.t 14)),og 16 12 false (.bin .gtr (.t 13) (.t 15)),bzc 17 12 16] [0,1,17]
@[go_sem] def Vd:Ops:=[
oo 4 (.asg (.c (.int .u64 0))),byu 5 0,byu 6 1]
def fL:=rg Vd [4,5,6]
def Ov:=rg [
oo 7 (.asg (.c (.int .u64 0)))] [0,1,7]
def Ou:=rg [
byu 8 0] [0,1,7,8]
def bku:=rg [
by8 18 8,byv 19 .lss 18 10] [0,1,7,8,19]
def bkt:=rg [
by8 22 1,by8 23 8,byw 24 .add 22 23,by8 25 0,by5 26 false 25,byw 27 .eql 24 26] [0,1,7,8,27]
def bks:=rg [
oo 4 (.asg (.c (.int .u64 0))),byu 5 0,byu 6 3] [4,5,6]
def bkr:=rg [
by8 28 0,by8 29 1,by8 30 8,byw 31 .add 29 30,by3 32 1 28 31,by6 33 32,bze 9 33] [0,1,7,8,9]
def bkq:=rg [
by8 34 8,byv 35 .eql 34 9,by8 36 35,by0 37 36 true 9,og 38 36 true (.bin .gtr (.t 37) (.c (.int .u8 1))),bzb 39 36 38] [0,1,7,8,9,39]
def aqk:=rg [
oo 4 (.asg (.c (.int .u64 0))),byu 5 0,byu 6 4] [4,5,6]
def aqj:=rg [
by8 40 7,by8 41 9,oo 42 (.bin .and (.t 41) (.c (.int .u8 127))),oo 43 (.Aj .u64 (.t 42)),by8 44 8,oo 45 (.Aj .u64 (.t 44)),oo 46 (.bin .mul (.c (.int .u64 7)) (.t 45)),byw 47 .shl 43 46,byw 48 .or 40 47,bze 7 48] [0,1,7,8,9]
def aqi:=rg [
by8 49 9,oo 50 (.bin .lss (.t 49) (.c (.int .u8 128)))] [0,1,7,8,50]
def aqh:=rg [
by8 51 7,by8 52 8,byv 53 .add 52 1,bze 4 51,bze 5 53,byu 6 0] [4,5,6]
def aqg:=rg [
by8 20 8,byv 21 .add 20 1,bze 8 21] [0,1,7,8]
def avy:AD:=(.seq (.seq bku (.cond (.t 19) .skip (.exit 0))) (.seq (.block 1 (.seq (.seq bkt (.cond (.t 27) (.seq bks .ret) .skip)) (.seq bkr (.seq (.seq bkq (.cond (.t 39) (.seq aqk .ret) .skip)) (.seq aqj (.seq aqi (.cond (.t 50) (.seq aqh .ret) .skip))))))) aqg))
def bv6:=by1 avy.eq_1
@[go_sem] def bkv:Ops:=[
oo 4 (.asg (.c (.int .u64 0))),byu 5 0,byu 6 4]
def bkw:=rg bkv [4,5,6]
def aY:AD:=(.seq Ox (.seq Ow (.cond (.t 17) (.seq fL .ret) (.seq Ov (.seq (.seq Ou (.block 0 (.loop avy))) (.seq bkw .ret))))))
def kP:AP:=⟨2,[.t 4,.t 5,.t 6],aY⟩
def a_ay:=zzy (zzz 5 [bku,Ou,Ov,.ret,Ow,Ox]++[(15,[4,5,6]),(6,[0,1,7,8]),(14,[4,5,6]),(13,[0,1,7,8,50]),(12,[0,1,7,8,9]),(11,[4,5,6]),(10,[0,1,7,8,9,39]),(9,[0,1,7,8,9]),(8,[4,5,6]),(7,[0,1,7,8,27]),(2,[4,5,6])])
def RA:=rg [
oo 4 (.alloc [(.int .i64 0),(.int .i64 0),(.int .u64 0),.AB,(.int .i64 0)]),byu 5 0,byu 6 0] [0,1,4]
def Q9:=rg [
by8 20 0,by8 21 1,byx 22 HY [(.t 20),(.t 21)],by8 19 22,bzf 23 19 0,bzf 24 19 1,bzf 25 19 2,bze 7 23,bze 8 24,bze 9 25] [0,1,4,7,8,9]
def Q8:=rg [
by8 26 9,byv 27 .neq 26 0] [0,1,4,7,8,9,27]
def Q7:=rg [
oo 28 (.build [(.int .i64 0),(.int .i64 0),(.int .u64 0),.AB,(.int .i64 0)] []),by8 29 9,bzd 5 4 28,byu 5 0,bze 6 29] [4,5,6]
def Q6:=rg [
by8 30 7,oo 31 (.bin .shr (.t 30) (.c (.int .u64 3))),oo 32 (.Aj .i64 (.t 31)),by8 33 7,oo 34 (.bin .and (.t 33) (.c (.int .u64 7))),oo 35 (.Aj .i64 (.t 34)),by8 36 1,oo 37 (.build [(.int .i64 0),(.int .i64 0),(.int .u64 0),.AB,(.int .i64 0)] [(0,1,(.t 32)),(1,1,(.t 35)),(4,1,(.t 36))]),oo 10 (.alloc [(.int .i64 0),(.int .i64 0),(.int .u64 0),.AB,(.int .i64 0)]),bzd 5 10 37] [0,1,4,7,8,10]
def Q5:=rg [
by8 38 7,oo 39 (.bin .shr (.t 38) (.c (.int .u64 3))),oo 40 (.bin .lss (.t 39) (.c (.int .u64 1))),by8 41 40,by0 42 41 false 7,og 43 41 false (.bin .shr (.t 42) (.c (.int .u64 3))),og 44 41 false (.bin .gtr (.t 43) (.c (.int .u64 536870911))),bzc 45 41 44] [0,1,4,8,10,45]
def Q4:=rg [
oo 46 (.build [(.int .i64 0),(.int .i64 0),(.int .u64 0),.AB,(.int .i64 0)] []),bzd 5 4 46,byu 5 0,byu 6 2] [4,5,6]
def Q3:=rg [
by8 47 1,by8 48 8,byw 49 .add 47 48,bze 1 49] [0,1,4,10]
def Q0:=rg [
byu 11 0] [0,1,4,10]
def Qz:=rg [
byy 50 1 10,by6 51 50] [0,1,4,10,51]
def bp3:=rg [
byv 54 .eql 51 0,bze 53 54] [0,1,4,10,51,53]
def bp2:=rg [
by8 56 0,by8 57 1,byx 58 HY [(.t 56),(.t 57)],by8 55 58,bzf 59 55 0,bzf 60 55 1,bzf 61 55 2,bze 12 59,bze 13 60,bze 14 61] [1,4,10,12,13,14]
def bp1:=rg [
by8 62 14,byv 63 .neq 62 0] [1,4,10,12,13,14,63]
def bp0:=rg [
oo 64 (.build [(.int .i64 0),(.int .i64 0),(.int .u64 0),.AB,(.int .i64 0)] []),by8 65 14,bzd 5 4 64,byu 5 0,bze 6 65] [4,5,6]
def bpz:=rg [
by8 66 12,byy 67 2 10,bzd 1 67 66] [1,4,10,13]
def bpy:=rg [
by7 68 5 10,by8 69 1,by8 70 13,byw 71 .add 69 70,bzd 5 4 68,bze 5 71,byu 6 0] [4,5,6]
def bpx:=rg [
byv 73 .eql 51 1,bze 72 73] [0,1,4,10,51,72]
def bpw:=rg [
byu 11 8] [0,1,4,10,11]
def bpv:=rg [
byv 75 .eql 51 2,bze 74 75] [0,1,4,10,51,74]
def bpu:=rg [
by8 77 0,by8 78 1,byx 79 HY [(.t 77),(.t 78)],by8 76 79,bzf 80 76 0,bzf 81 76 1,bzf 82 76 2,bze 15 80,bze 16 81,bze 17 82] [0,1,4,10,15,16,17]
def bpt:=rg [
by8 83 17,byv 84 .neq 83 0] [0,1,4,10,15,16,17,84]
def bps:=rg [
oo 85 (.build [(.int .i64 0),(.int .i64 0),(.int .u64 0),.AB,(.int .i64 0)] []),by8 86 17,bzd 5 4 85,byu 5 0,bze 6 86] [4,5,6]
def bpr:=rg [
by8 87 1,by8 88 16,byw 89 .add 87 88,bze 1 89] [0,1,4,10,15]
def bpq:=rg [
by8 90 15,by8 91 0,by5 92 false 91,by8 93 1,byw 94 .sub 92 93,oo 95 (.Aj .u64 (.t 94)),byw 96 .gtr 90 95] [0,1,4,10,15,96]
def bpp:=rg [
oo 97 (.build [(.int .i64 0),(.int .i64 0),(.int .u64 0),.AB,(.int .i64 0)] []),bzd 5 4 97,byu 5 0,byu 6 3] [4,5,6]
def bpo:=rg [
oo 98 (.lit true 1 0 (.int .u8 0) []),by8 99 0,by8 100 1,by8 101 1,by8 102 15,oo 103 (.Aj .i64 (.t 102)),byw 104 .add 101 103,oo 105 (.slice 1 (.t 99) (some (.t 100)) (some (.t 104)) none),oo 106 (.append 1 1 (.t 98) (.t 105)),byy 107 3 10,bzd 1 107 106] [1,4,10,15]
def bpn:=rg [
by7 108 5 10,by8 109 1,by8 110 15,oo 111 (.Aj .i64 (.t 110)),byw 112 .add 109 111,bzd 5 4 108,bze 5 112,byu 6 0] [4,5,6]
def bpm:=rg [
byv 114 .eql 51 5,bze 113 114] [0,1,4,10,113]
def bpl:=rg [
byu 11 4] [0,1,4,10,11]
def bpk:=rg [
oo 52 (.build [(.int .i64 0),(.int .i64 0),(.int .u64 0),.AB,(.int .i64 0)] []),bzd 5 4 52,byu 5 0,byu 6 2] [4,5,6]
def bpj:=rg [
by8 115 0,by5 116 false 115,by8 117 1,byw 118 .sub 116 117,by8 119 11,byw 120 .lss 118 119] [0,1,4,10,11,120]
def bpi:=rg [
oo 121 (.build [(.int .i64 0),(.int .i64 0),(.int .u64 0),.AB,(.int .i64 0)] []),bzd 5 4 121,byu 5 0,byu 6 3] [4,5,6]
def bph:=rg [
by8 122 11,byv 123 .sub 122 1,bze 18 123] [0,1,4,10,11,18]
def ash:=rg [
by8 124 18,byv 125 .geq 124 0] [0,1,4,10,11,18,125]
@[go_sem] def ai1:Ops:=[
byy 128 2 10,by6 129 128,oo 130 (.bin .shl (.t 129) (.c (.int .u64 8))),by8 131 0,by8 132 1,by8 133 18,byw 134 .add 132 133,by3 135 1 131 134,by6 136 135,oo 137 (.Aj .u64 (.t 136)),byw 138 .or 130 137,byy 139 2 10,bzd 1 139 138]
def ai2:List (Nat×Nat):=[(0,3),(1,3),(2,3),(0,4),(1,4),(2,4),(3,4),(0,5),(1,5),(2,5),(3,5),(4,5),(0,6),(1,6),(2,6),(3,6),(0,7),(1,7),(2,7),(0,8),(1,8),(2,8),(0,9),(1,9),(2,9)]
def asf:AD:= .region ai1 ai2 [0,1,4,10,11,18]
@[go_sem] theorem r_ae_34_u:Gu X K s asf ai2 ai1 [0,1,4,10,11,18]:=Ab _ _ _ _
def ase:=rg [
by8 126 18,byv 127 .sub 126 1,bze 18 127] [0,1,4,10,11,18]
def aaa:AD:=(.seq (.seq ash (.cond (.t 125) .skip (.exit 1))) (.seq (.block 2 asf) ase))
def bv7:=by1 aaa.eq_1
def ym:=rg [
by7 140 5 10,by8 141 1,by8 142 11,byw 143 .add 141 142,bzd 5 4 140,bze 5 143,byu 6 0] [4,5,6]
def ER:AD:=(.seq RA (.seq Q9 (.seq Q8 (.cond (.t 27) (.seq Q7 .ret) (.seq Q6 (.seq Q5 (.cond (.t 45) (.seq Q4 .ret) (.seq Q3 (.seq Q0 (.seq (.seq Qz (.block 0 (.seq bp3 (.cond (.t 53) (.seq bp2 (.seq (.seq bp1 (.cond (.t 63) (.seq bp0 .ret) .skip)) (.seq bpz (.seq bpy .ret)))) (.seq bpx (.cond (.t 72) bpw (.seq bpv (.cond (.t 74) (.seq bpu (.seq (.seq bpt (.cond (.t 84) (.seq bps .ret) .skip)) (.seq bpr (.seq (.seq bpq (.cond (.t 96) (.seq bpp .ret) .skip)) (.seq bpo (.seq bpn .ret)))))) (.seq bpm (.cond (.t 113) bpl (.seq bpk .ret))))))))))) (.seq bpj (.cond (.t 120) (.seq bpi .ret) (.seq (.seq bph (.block 1 (.loop aaa))) (.seq ym .ret))))))))))))))
def lF:AP:=⟨2,[.cell 4 (some 5),.t 5,.t 6],ER⟩
def a_ae:AG:=⟨[98],by4 [(35,ase),(33,ash),(32,bph),(31,bpi),(30,bpj),(9,Qz),(8,Q0),(7,Q3),(6,Q4),(5,Q5),(4,Q6),(3,Q7),(2,Q8),(1,Q9),(0,RA)]++[(36,[4,5,6]),(34,[0,1,4,10,11,18]),(16,[4,5,6]),(15,[1,4,10,13]),(14,[4,5,6]),(13,[1,4,10,12,13,14,63]),(12,[1,4,10,12,13,14]),(18,[0,1,4,10,11]),(27,[4,5,6]),(26,[1,4,10,15]),(25,[4,5,6]),(24,[0,1,4,10,15,96]),(23,[0,1,4,10,15]),(22,[4,5,6]),(21,[0,1,4,10,15,16,17,84]),(20,[0,1,4,10,15,16,17]),(29,[0,1,4,10,11]),(10,[4,5,6]),(28,[0,1,4,10,113]),(19,[0,1,4,10,51,74]),(17,[0,1,4,10,51,72]),(11,[0,1,4,10,51,53])],[],[],[],[]⟩
def PM:=rg [
oo 2 (.asg (.c .AB)),byu 3 0] [0]
def PL:=rg [
by8 9 0,by5 10 false 9,byv 11 .gtr 10 262144] [0,11]
def PK:=rg [
oo 2 (.asg (.c .AB)),byu 3 4] [2,3]
def PJ:=rg [
oo 4 (.asg (.c .AB))] [0,4]
def PI:=rg [
byu 5 0] [0,4,5]
def bk2:=rg [
by8 12 5,by8 13 0,by5 14 false 13,byw 15 .lss 12 14] [0,4,5,15]
def bk1:=rg [
by8 16 4,by5 17 false 16,byv 18 .eql 17 4096] [0,4,5,18]
def bk0:=rg [
oo 2 (.asg (.c .AB)),byu 3 4] [2,3]
def bkz:=rg [
by8 20 0,by8 21 5,byx 22 T5 [(.t 20),(.t 21)],by8 19 22,bzf 23 19 0,bzf 24 19 1,bzf 25 19 2,oo 6 (.alloc [(.int .i64 0),(.int .i64 0),(.int .u64 0),.AB,(.int .i64 0)]),bzd 5 6 23,bze 7 24,bze 8 25] [0,4,6,7,8]
def bky:=rg [
by8 26 8,byv 27 .neq 26 0] [0,4,6,7,8,27]
def ara:=rg [
by8 28 8,oo 2 (.asg (.c .AB)),bze 3 28] [2,3]
def aq9:=rg [
by8 29 4,by7 30 5 6,oo 31 (.lit false 5 1 (.agg [(.int .i64 0),(.int .i64 0),(.int .u64 0),(.sl []),(.int .i64 0)]) [(0,(.t 30))]),oo 32 (.append 5 56 (.t 29) (.t 31)),bze 4 32] [0,4,7]
def aq8:=rg [
by8 33 7,bze 5 33] [0,4,5]
def av1:AD:=(.seq (.seq bk2 (.cond (.t 15) .skip (.exit 0))) (.block 1 (.seq (.seq bk1 (.cond (.t 18) (.seq bk0 .ret) .skip)) (.seq (.seq (.free 6) bkz) (.seq (.seq bky (.cond (.t 27) (.seq ara .ret) .skip)) (.seq aq9 aq8))))))
def bv8:=by1 av1.eq_1
def aq7:=rg [
by8 34 4,bze 2 34,byu 3 0] [2,3]
def XS:AD:=(.seq PM (.seq PL (.cond (.t 11) (.seq PK .ret) (.seq PJ (.seq PI (.seq (.block 0 (.loop av1)) (.seq aq7 .ret)))))))
def kS:AP:=⟨1,[.t 2,.t 3],XS⟩
def a_av:AG:=⟨[32],zzz 12 [aq8,aq9,ara,bky,bkz,bk0,bk1,bk2,PI,PJ,PK,PL,PM]++[(13,[2,3])],[],[(8,[6])],[],[]⟩
def brh:=rg [
oo 2 (.box 6 (.t 0)),oo 4 (.alloc [(.int .i64 0),(.bool false),(.bool false),(.bool false),(.int .i64 0),(.int .i64 0),.AB,.AB,(.bool false),(.int .i64 0),(.int .i64 0),.AB,.AB,(.bool false),(.int .i64 0)]),byu 5 0] [1,2,4]
def brg:=rg [
oo 42 (.build [(.int .i64 0),(.bool false),(.bool false),(.bool false),(.int .i64 0),(.int .i64 0),.AB,.AB,(.bool false),(.int .i64 0),(.int .i64 0),.AB,.AB,(.bool false),(.int .i64 0)] []),oo 6 (.alloc [(.int .i64 0),(.bool false),(.bool false),(.bool false),(.int .i64 0),(.int .i64 0),.AB,.AB,(.bool false),(.int .i64 0),(.int .i64 0),.AB,.AB,(.bool false),(.int .i64 0)]),bzd 15 6 42] [1,2,4,6]
def brf:=rg [
by8 44 1,byx 45 Rz [(.t 44)],by8 43 45,bzf 46 43 0,bzf 47 43 1,bze 7 46,bze 8 47] [2,4,6,7,8]
def bre:=rg [
by8 48 8,byv 49 .neq 48 0] [2,4,6,7,8,49]
def brd:=rg [
by7 50 15 6,by8 51 8,bzd 15 4 50,bze 5 51] [4,5]
def brc:=rg [
by8 53 7,byx 54 Gy [(.t 53),(ci 1)],by8 52 54,bzf 55 52 0,bzf 56 52 1,bze 9 55,bze 10 56] [2,4,6,7,9]
def brb:=rg [
by8 57 9,oo 58 (.bin .gtr (.t 57) (.c (.int .u64 262144)))] [2,4,6,7,9,58]
def bra:=rg [
by7 59 15 6,bzd 15 4 59,byu 5 2] [4,5]
def bq9:=rg [
by8 61 7,byx 62 Gy [(.t 61),(ci 10)],by8 60 62,bzf 63 60 0,bzf 64 60 1,bze 11 63,bze 12 64] [2,4,6,7,9,11]
def bq8:=rg [
by8 65 9,oo 66 (.Aj .i64 (.t 65)),by8 67 11,oo 68 (.bin .neq (.t 67) (.c (.int .u64 0))),oo 69 (.build [(.int .i64 0),(.bool false),(.bool false),(.bool false),(.int .i64 0),(.int .i64 0),.AB,.AB,(.bool false),(.int .i64 0),(.int .i64 0),.AB,.AB,(.bool false),(.int .i64 0)] [(0,1,(.t 66)),(1,1,(.t 68))]),oo 13 (.alloc [(.int .i64 0),(.bool false),(.bool false),(.bool false),(.int .i64 0),(.int .i64 0),.AB,.AB,(.bool false),(.int .i64 0),(.int .i64 0),.AB,.AB,(.bool false),(.int .i64 0)]),bzd 15 13 69] [2,4,6,7,13]
def au3:=rg [
byu 14 0] [2,4,6,7,13,14]
def au2:=rg [
byy 71 0 2,by6 72 71,byx 73 Rs [(.t 72)],bze 70 73] [2,4,6,7,13,14,70]
def au1:=rg [
byu 14 2] [2,4,6,7,13,14]
def au0:=rg [
byy 75 0 2,by6 76 75,byx 77 Ro [(.t 76)],bze 74 77] [2,4,6,7,13,14,74]
def auz:=rg [
byu 14 4] [2,4,6,7,13,14]
def auy:=rg [
byy 79 0 2,by6 80 79,byv 81 .eql 80 0,bze 78 81] [2,4,6,7,13,14,78]
def aux:=rg [
byu 14 5] [2,4,6,7,13,14]
def auw:=rg [
byy 83 0 2,by6 84 83,byv 85 .eql 84 14,bze 82 85] [2,4,6,7,13,14,82]
def auv:=rg [
byu 14 6] [2,4,6,7,13,14]
def auu:=rg [
byy 87 0 2,by6 88 87,byv 89 .eql 88 15,bze 86 89] [2,4,6,7,13,14,86]
def aut:=rg [
byu 14 7] [2,4,6,7,13,14]
def aus:=rg [
byy 91 0 2,by6 92 91,byv 93 .eql 92 8,bze 90 93] [2,4,6,7,13,14,90]
def aur:=rg [
byu 14 8] [2,4,6,7,13,14]
def auq:=rg [
byy 95 0 2,by6 96 95,byv 97 .eql 96 9,bze 94 97] [2,4,6,7,13,14,94]
def aup:=rg [
byu 14 9] [2,4,6,7,13,14]
def auo:=rg [
by8 98 14,byv 99 .eql 98 0] [2,4,6,7,13,14,99]
def aun:=rg [
by7 100 15 13,bzd 15 4 100,byu 5 0] [4,5]
def aum:=rg [
by8 102 7,by8 103 14,byx 104 Tv [(.t 102),(.t 103)],by8 101 104,bzf 105 101 0,bzf 106 101 1,bzf 107 101 2,bze 15 105,bze 16 106,bze 17 107] [2,4,6,13,14,15,16,17]
def aul:=rg [
by8 108 17,byv 109 .neq 108 0] [2,4,6,13,14,15,16,17,109]
def auk:=rg [
by7 110 15 6,by8 111 17,bzd 15 4 110,bze 5 111] [4,5]
def auj:=rg [
by8 112 16,bza 113 112] [2,4,6,13,14,15,113]
def aui:=rg [
by7 114 15 13,bzd 15 4 114,byu 5 0] [4,5]
def auh:=rg [
byt 18 true] [2,4,6,13,14,15,18]
def aug:=rg [
by8 115 14] [2,4,6,13,14,15,18,115]
def auf:=rg [
byv 117 .eql 115 2,bze 116 117] [2,4,6,13,14,15,18,115,116]
def aue:=rg [
byv 118 .eql 115 7,bze 116 118] [2,4,6,13,14,15,18,115,116]
def aud:=rg [
by8 120 15,byx 121 Rr [(.t 120)],by8 119 121,bzf 122 119 0,bzf 123 119 1,bzf 124 119 2,bzf 125 119 3,byy 126 3 13,byy 127 1 126,bzd 1 127 122,byy 128 8 13,byy 129 1 128,bzd 1 129 123,byy 130 2 13,bzd 1 130 124,bze 18 125] [2,4,6,13,14,15,18]
def auc:=rg [
by8 131 14,byv 132 .eql 131 2] [2,4,6,13,15,18,132]
def aub:=rg [
by8 134 15,byx 135 Gx [(.t 134),(ci 3)],by8 133 135,bzf 136 133 0,bzf 137 133 1,byy 138 14 13,bzd 1 138 136,byy 139 13 13,bzd 1 139 137] [2,4,6,13,18]
def aua:=rg [
byv 141 .eql 115 4,bze 140 141] [2,4,6,13,15,18,115,140]
def at9:=rg [
by8 143 15,byx 144 GX [(.t 143),(ci 1)],by8 142 144,bzf 145 142 0,bzf 146 142 1,bze 19 145,bze 20 146] [2,4,6,13,15,19,20]
def at8:=rg [
by8 148 15,byx 149 GX [(.t 148),(ci 2)],by8 147 149,bzf 150 147 0,bzf 151 147 1,bze 21 150,bze 22 151] [2,4,6,13,15,19,20,21,22]
def at7:=rg [
by8 152 19,byy 153 3 13,byy 154 3 153,bzd 1 154 152] [2,4,6,13,15,20,21,22]
def at6:=rg [
by8 155 21,byy 156 8 13,byy 157 3 156,bzd 1 157 155] [2,4,6,13,15,20,22]
def at5:=rg [
by8 158 20,byy 159 2 13,bzd 1 159 158] [2,4,6,13,15,20,22]
def at4:=rg [
by8 160 20,by8 161 22,oo 162 (.eqn false .bool (.t 160) (.t 161)),bze 18 162] [2,4,6,13,15,18]
def at3:=rg [
by8 164 15,byx 165 Gx [(.t 164),(ci 3)],by8 163 165,bzf 166 163 0,bzf 167 163 1,byy 168 14 13,bzd 1 168 166,byy 169 13 13,bzd 1 169 167] [2,4,6,13,18]
def at2:=rg [
byv 171 .eql 115 5,bze 170 171] [2,4,6,13,15,18,115,170]
def at1:=rg [
by8 173 15,byx 174 T2 [(.t 173),(ci 1)],by8 172 174,bzf 175 172 0,bzf 176 172 1,bze 23 175,bze 24 176] [2,4,6,13,18,23,24]
def at0:=rg [
by8 177 24,byv 178 .neq 177 0] [2,4,6,13,18,23,24,178]
def atz:=rg [
by7 179 15 6,by8 180 24,bzd 15 4 179,bze 5 180] [4,5]
def aty:=rg [
by8 181 23,by5 182 false 181,byv 183 .gtr 182 1,by8 184 183,by0 185 184 false 23,og 186 184 false (.len false (.t 185)),og 187 184 false (.bin .eql (.t 186) (ci 1)),by0 188 184 false 187,by0 189 188 true 23,og 190 188 true (.C6 1 (.t 189) (ci 0)),og 191 188 true (.load none (.t 190)),og 192 188 true (.bin .gtr (.t 191) (.c (.int .u64 262144))),og 193 184 false (.pick (.t 188) (.t 192) (.c (.bool false))),bzc 194 184 193] [2,4,6,13,18,23,194]
def atx:=rg [
by7 195 15 6,bzd 15 4 195,byu 5 2] [4,5]
def atw:=rg [
by8 196 23,by5 197 false 196,byv 198 .eql 197 1] [2,4,6,13,18,23,198]
def atv:=rg [
by8 199 23,oo 200 (.C6 1 (.t 199) (ci 0)),by6 201 200,oo 202 (.Aj .i64 (.t 201)),byy 203 14 13,bzd 1 203 202] [2,4,6,13,18]
def atu:=rg [
byy 204 13 13,ow (.store 1 (.t 204) (.c (.bool true)))] [2,4,6,13,18]
def att:=rg [
byv 206 .eql 115 6,bze 205 206] [2,4,6,13,15,18,115,205]
def ats:=rg [
by8 208 15,byx 209 GX [(.t 208),(ci 1)],by8 207 209,bzf 210 207 0,bzf 211 207 1,bze 25 210,bze 26 211] [2,4,6,13,15,25,26]
def atr:=rg [
by8 213 15,byx 214 GX [(.t 213),(ci 2)],by8 212 214,bzf 215 212 0,bzf 216 212 1,bze 27 215,bze 28 216] [2,4,6,13,15,25,26,27,28]
def atq:=rg [
by8 218 15,byx 219 GX [(.t 218),(ci 3)],by8 217 219,bzf 220 217 0,bzf 221 217 1,bze 29 220,bze 30 221] [2,4,6,13,25,26,27,28,29,30]
def atp:=rg [
by8 222 26,byy 223 2 13,bzd 1 223 222] [2,4,6,13,25,26,27,28,29,30]
def ato:=rg [
by8 224 30,byy 225 13 13,bzd 1 225 224] [2,4,6,13,25,26,27,28,29,30]
def atn:=rg [
by8 226 26,by8 227 28,oo 228 (.eqn false .bool (.t 226) (.t 227)),bze 18 228] [2,4,6,13,18,25,26,27,28,29,30]
def atm:=rg [
byu 31 0] [2,4,6,13,18,25,26,27,28,29,30,31]
def atl:=rg [
by8 229 26,by8 230 229,by0 231 230 true 28,bzb 232 230 231] [2,4,6,13,18,25,27,29,30,31,232]
def atk:=rg [
by8 234 25,oo 235 (.b2s (.t 234)),byy 236 5 2,by6 237 236,byx 238 H8 [(.t 235),(.t 237)],by8 233 238,bzf 239 233 0,bzf 240 233 1,bze 32 239,bze 33 240] [2,4,6,13,18,27,29,30,32,33]
def atj:=rg [
by8 242 27,oo 243 (.b2s (.t 242)),byy 244 5 2,by6 245 244,byx 246 H8 [(.t 243),(.t 245)],by8 241 246,bzf 247 241 0,bzf 248 241 1,bze 34 247,bze 35 248] [2,4,6,13,18,29,30,32,33,34,35]
def ati:=rg [
by8 249 32,byy 250 3 13,byy 251 1 250,bzd 1 251 249] [2,4,6,13,18,29,30,33,34,35]
def ath:=rg [
by8 252 34,byy 253 8 13,byy 254 1 253,bzd 1 254 252] [2,4,6,13,18,29,30,33,35]
def atg:=rg [
by8 255 33,by8 256 35,byw 257 .add 255 256,bze 31 257] [2,4,6,13,18,29,30,31]
def atf:=rg [
by8 258 30] [2,4,6,13,18,29,31,258]
def ate:=rg [
by8 260 29,oo 261 (.b2s (.t 260)),byy 262 5 2,by6 263 262,byx 264 H8 [(.t 261),(.t 263)],by8 259 264,bzf 265 259 0,bzf 266 259 1,bze 36 265,bze 37 266] [2,4,6,13,18,31,36,37]
def atd:=rg [
by8 267 36,byy 268 14 13,bzd 1 268 267] [2,4,6,13,18,31,37]
def atc:=rg [
by8 269 31,by8 270 37,byw 271 .add 269 270,bze 31 271] [2,4,6,13,18,31]
def atb:=rg [
by8 272 18,by8 273 272,by0 274 273 true 31,og 275 273 true (.bin .eql (.t 274) (ci 0)),bzb 276 273 275,bze 18 276] [2,4,6,13,18]
def ata:=rg [
byv 278 .eql 115 8,bze 277 278] [2,4,6,13,15,18,115,277]
def as9:=rg [
by8 280 15,byx 281 Gx [(.t 280),(ci 1)],by8 279 281,bzf 282 279 0,bzf 283 279 1,byy 284 14 13,bzd 1 284 282,byy 285 13 13,bzd 1 285 283] [2,4,6,13,18]
def as8:=rg [
byv 287 .eql 115 9,bze 286 287] [2,4,6,13,15,18,286]
def as7:=rg [
by8 289 15,byx 290 Gy [(.t 289),(ci 3)],by8 288 290,bzf 291 288 0,bzf 292 288 1,bze 38 291,bze 39 292] [2,4,6,13,15,38,39]
def as6:=rg [
by8 294 15,byx 295 Gy [(.t 294),(ci 4)],by8 293 295,bzf 296 293 0,bzf 297 293 1,bze 40 296,bze 41 297] [2,4,6,13,15,38,39,40,41]
def as5:=rg [
by8 299 15,byx 300 Rr [(.t 299)],by8 298 300,bzf 301 298 0,bzf 302 298 1,bzf 303 298 2,bzf 304 298 3,byy 305 3 13,byy 306 1 305,bzd 1 306 301,byy 307 8 13,byy 308 1 307,bzd 1 308 302,byy 309 2 13,bzd 1 309 303,bze 18 304] [2,4,6,13,18,38,39,40,41]
def as4:=rg [
by8 310 18,by8 311 310,by0 312 311 true 39,og 313 311 true (.AH 2 (.t 13)),og 314 311 true (.load none (.t 313)),og 315 311 true (.eqn false .bool (.t 312) (.t 314)),bzb 316 311 315,by8 317 316,by0 318 317 true 41,og 319 317 true (.AH 2 (.t 13)),og 320 317 true (.load none (.t 319)),og 321 317 true (.eqn false .bool (.t 318) (.t 320)),bzb 322 317 321,by8 323 322,by0 324 323 true 38,og 325 323 true (.bin .lss (.t 324) (.c (.int .u64 4294967296))),bzb 326 323 325,by8 327 326,by0 328 327 true 40,og 329 327 true (.bin .lss (.t 328) (.c (.int .u64 4294967296))),bzb 330 327 329,bze 18 330] [2,4,6,13,18,38,40]
def as3:=rg [
by8 331 38,oo 332 (.Aj .i64 (.t 331)),byy 333 3 13,byy 334 2 333,bzd 1 334 332] [2,4,6,13,18,40]
def as2:=rg [
by8 335 40,oo 336 (.Aj .i64 (.t 335)),byy 337 8 13,byy 338 2 337,bzd 1 338 336] [2,4,6,13,18]
def as1:=rg [
by8 339 18,bza 340 339,by8 341 340,og 342 341 false (.AH 2 (.t 13)),og 343 341 false (.load none (.t 342)),by0 344 341 false 343,og 345 344 true (.load (some 6) (.t 2)),og 346 344 true (.AH 3 (.t 13)),og 347 344 true (.load (some 5) (.t 346)),og 348 344 true (.call false Fy [(.t 345),(.t 347)]),og 349 344 true (.bin .neq (.t 348) (ci 0)),by0 350 344 true 349,og 351 350 false (.load (some 6) (.t 2)),og 352 350 false (.AH 8 (.t 13)),og 353 350 false (.load (some 5) (.t 352)),og 354 350 false (.call false Fy [(.t 351),(.t 353)]),og 355 350 false (.bin .neq (.t 354) (ci 0)),og 356 344 true (.pick (.t 350) (.c (.bool true)) (.t 355)),og 357 341 false (.pick (.t 344) (.t 356) (.c (.bool false))),bzc 358 341 357] [4,6,13,358]
def as0:=rg [
by7 359 15 6,bzd 15 4 359,byu 5 2] [4,5]
def asz:=rg [
byy 360 13 13,by6 361 360,bza 362 361] [4,13,362]
def asy:=rg [
byy 363 14 13,ow (.store 1 (.t 363) (ci 0))] [4,13]
def asx:=rg [
by7 364 15 13,bzd 15 4 364,byu 5 0] [4,5]
def bB:AD:=(.seq brh (.seq brg (.seq brf (.seq bre (.cond (.t 49) (.seq brd .ret) (.seq brc (.seq brb (.cond (.t 58) (.seq bra .ret) (.seq bq9 (.seq bq8 (.seq au3 (.seq (.block 0 (.seq au2 (.cond (.t 70) au1 (.seq au0 (.cond (.t 74) auz (.seq auy (.cond (.t 78) aux (.seq auw (.cond (.t 82) auv (.seq auu (.cond (.t 86) aut (.seq aus (.cond (.t 90) aur (.seq auq (.cond (.t 94) aup .skip))))))))))))))) (.seq auo (.cond (.t 99) (.seq aun .ret) (.seq aum (.seq aul (.cond (.t 109) (.seq auk .ret) (.seq auj (.cond (.t 113) (.seq aui .ret) (.seq auh (.seq (.seq aug (.block 1 (.seq (.seq auf (.cond (.t 116) .skip aue)) (.cond (.t 116) (.seq aud (.seq auc (.cond (.t 132) aub .skip))) (.seq aua (.cond (.t 140) (.seq at9 (.seq at8 (.seq at7 (.seq at6 (.seq at5 (.seq at4 at3)))))) (.seq at2 (.cond (.t 170) (.seq at1 (.seq (.seq at0 (.cond (.t 178) (.seq atz .ret) .skip)) (.seq (.seq aty (.cond (.t 194) (.seq atx .ret) .skip)) (.seq atw (.cond (.t 198) (.seq atv atu) .skip))))) (.seq att (.cond (.t 205) (.seq ats (.seq atr (.seq atq (.seq atp (.seq ato (.seq atn (.seq atm (.seq (.seq atl (.cond (.t 232) (.seq atk (.seq atj (.seq ati (.seq ath atg)))) .skip)) (.seq (.seq atf (.cond (.t 258) (.seq ate (.seq atd atc)) .skip)) atb))))))))) (.seq ata (.cond (.t 277) as9 (.seq as8 (.cond (.t 286) (.seq as7 (.seq as6 (.seq as5 (.seq as4 (.seq as3 as2))))) .skip)))))))))))))) (.seq as1 (.cond (.t 358) (.seq as0 .ret) (.seq (.seq asz (.cond (.t 362) asy .skip)) (.seq asx .ret)))))))))))))))))))))))))
def lI:AP:=⟨2,[.cell 4 (some 15),.t 5],bB⟩
def a_aa:=zzy (zzz 88 [asx,asy,asz,as0,as1,as2,as3,as4,as5,as6,as7,as8,as9,ata,atb,atc,atd,ate,atf,atg,ath,ati,atj,atk,atl,atm,atn,ato,atp,atq,atr,ats,att,atu,atv,atw,atx,aty,atz,at0,at1,at2,at3,at4,at5,at6,at7,at8,at9,aua,aub,auc,aud,aue,auf,aug,auh,aui,auj,auk,aul,aum,aun,auo,aup,auq,aur,aus,aut,auu,auv,auw,aux,auy,auz,au0,au1,au2,au3,bq8,bq9,bra,brb,brc,brd,bre,brf,brg,brh])
def Qy:=rg [
oo 1 (.box 6 (.t 0)),byu 2 0] [1]
def Qx:=rg [
byy 8 0 1,by6 9 8,byv 10 .eql 9 5,by8 11 10,og 12 11 false (.AH 0 (.t 1)),og 13 11 false (.load none (.t 12)),og 14 11 false (.bin .eql (.t 13) (ci 6)),bzc 15 11 14] [1,15]
def Qw:=rg [
byu 2 5] [2]
def Qv:=rg [
byy 16 0 1,by6 17 16,byv 18 .lss 17 0,by8 19 18,og 20 19 false (.AH 0 (.t 1)),og 21 19 false (.load none (.t 20)),og 22 19 false (.bin .gtr (.t 21) (ci 17)),bzc 23 19 22] [1,23]
def Qu:=rg [
byu 2 1] [2]
def Qt:=rg [
byy 24 2 1,by6 25 24,by5 26 false 25,bze 3 26] [1,3]
def Qs:=rg [
by8 27 3,byv 28 .eql 27 0,bze 4 28] [1,3,4]
def Qr:=rg [
byy 29 0 1,by6 30 29] [1,3,4,30]
def Qq:=rg [
byv 32 .eql 30 10,bze 31 32] [1,3,4,30,31]
def Qp:=rg [
by8 33 3,byv 34 .eql 33 1,bze 4 34] [1,4]
def bpg:=rg [
byv 36 .eql 30 11,bze 35 36] [1,3,4,30,35]
def bpf:=rg [
by8 37 3,byv 38 .eql 37 2,bze 4 38] [1,4]
def bpe:=rg [
byv 40 .eql 30 12,bze 39 40] [1,3,4,30,39]
def bpd:=rg [
by8 41 3,byy 42 1 1,by6 43 42,by5 44 false 43,byw 45 .eql 41 44,bze 4 45] [1,4]
def bpc:=rg [
byv 47 .eql 30 13,bze 46 47] [1,3,4,46]
def bpb:=rg [
by8 48 3,byv 49 .geq 48 1,by8 50 49,by0 51 50 true 3,og 52 50 true (.bin .leq (.t 51) (ci 255)),bzb 53 50 52,bze 4 53] [1,4]
def bpa:=rg [
by8 54 4,bza 55 54,by8 56 55,og 57 56 false (.AH 0 (.t 1)),og 58 56 false (.load none (.t 57)),og 59 56 false (.bin .neq (.t 58) (ci 12)),by0 60 56 false 59,og 61 60 true (.AH 1 (.t 1)),og 62 60 true (.load none (.t 61)),og 63 60 true (.len false (.t 62)),og 64 60 true (.bin .gtr (.t 63) (ci 0)),og 65 56 false (.pick (.t 60) (.t 64) (.c (.bool false))),bzc 66 56 65] [1,66]
def bo9:=rg [
byu 2 1] [2]
def bo8:=rg [
byu 5 0] [1,5]
def asd:=rg [
by8 67 5,byy 68 1 1,by6 69 68,by5 70 false 69,byw 71 .lss 67 70] [1,5,71]
def asc:=rg [
byy 74 1 1,by6 75 74,by8 76 5,by3 77 1 75 76,by6 78 77,oo 79 (.bin .eql (.t 78) (.c (.str []))),by8 80 79,og 81 80 false (.AH 1 (.t 1)),og 82 80 false (.load none (.t 81)),by0 83 80 false 5,og 84 80 false (.C6 1 (.t 82) (.t 83)),og 85 80 false (.load none (.t 84)),og 86 80 false (.len true (.t 85)),og 87 80 false (.bin .gtr (.t 86) (ci 100)),bzc 88 80 87] [1,5,88]
def asb:=rg [
byu 2 1] [2]
def asa:=rg [
byu 6 0] [1,5,6]
def ar9:=rg [
by8 89 6,by8 90 5,byw 91 .lss 89 90] [1,5,6,91]
@[go_sem] def aij:Ops:=[
byy 94 1 1,by6 95 94,by8 96 6,by3 97 1 95 96,by6 98 97,byy 99 1 1,by6 100 99,by8 101 5,by3 102 1 100 101,by6 103 102,byw 104 .eql 98 103]
def aik:List (Nat×Nat):=[(0,2),(1,2),(0,5),(1,5),(2,5),(3,5),(4,5),(0,6),(1,6),(2,6),(3,6),(4,6),(0,7),(1,7),(2,7),(3,7),(4,7),(5,7),(6,7),(0,8),(1,8),(2,8),(3,8),(4,8),(0,9),(1,9),(2,9),(3,9),(4,9)]
def ar8:AD:= .region aij aik [1,5,6,104]
@[go_sem] theorem r_af_24_u:Gu X K s ar8 aik aij [1,5,6,104]:=Ab _ _ _ _
def ar7:=rg [
byu 2 1] [2]
def ar6:=rg [
by8 92 6,byv 93 .add 92 1,bze 6 93] [1,5,6]
def z8:AD:=(.seq (.seq ar9 (.cond (.t 91) .skip (.exit 3))) (.seq (.block 4 (.seq ar8 (.cond (.t 104) (.seq ar7 .ret) .skip))) ar6))
def bv9:=by1 z8.eq_1
def ar5:=rg [
by8 72 5,byv 73 .add 72 1,bze 5 73] [1,5]
def av6:AD:=(.seq (.seq asd (.cond (.t 71) .skip (.exit 1))) (.seq (.block 2 (.seq (.seq asc (.cond (.t 88) (.seq asb .ret) .skip)) (.seq asa (.block 3 (.loop z8))))) ar5))
def bwa:=by1 av6.eq_1
def bo7:=rg [
byy 105 0 1,by6 106 105,byv 107 .eql 106 16,by8 108 107,og 109 108 false (.AH 0 (.t 1)),og 110 108 false (.load none (.t 109)),og 111 108 false (.bin .eql (.t 110) (ci 17)),bzc 112 108 111,bze 7 112] [1,7]
def bo6:=rg [
by8 113 7,by8 114 113,og 115 114 true (.AH 3 (.t 1)),og 116 114 true (.load none (.t 115)),og 117 114 true (.bin .lss (.t 116) (ci 1)),by0 118 114 true 117,og 119 118 false (.AH 3 (.t 1)),og 120 118 false (.load none (.t 119)),og 121 118 false (.bin .gtr (.t 120) (ci 4096)),og 122 114 true (.pick (.t 118) (.c (.bool true)) (.t 121)),bzb 123 114 122,by8 124 123,by0 125 124 false 7,og 126 124 false (.un .not (.t 125)),by0 127 124 false 126,og 128 127 true (.AH 3 (.t 1)),og 129 127 true (.load none (.t 128)),og 130 127 true (.bin .neq (.t 129) (ci 0)),og 131 124 false (.pick (.t 127) (.t 130) (.c (.bool false))),bzc 132 124 131] [1,132]
def bo5:=rg [
byu 2 1] [2]
def bo4:=rg [
byy 133 0 1,by6 134 133,byv 135 .eql 134 14] [1,135]
def bo3:=rg [
byy 136 4 1,by6 137 136,byv 138 .lss 137 1,by8 139 138,og 140 139 false (.AH 4 (.t 1)),og 141 139 false (.load none (.t 140)),og 142 139 false (.bin .gtr (.t 141) (ci 18)),bzc 143 139 142,by8 144 143,og 145 144 false (.AH 5 (.t 1)),og 146 144 false (.load none (.t 145)),og 147 144 false (.bin .lss (.t 146) (ci 0)),bzc 148 144 147,by8 149 148,og 150 149 false (.AH 5 (.t 1)),og 151 149 false (.load none (.t 150)),og 152 149 false (.AH 4 (.t 1)),og 153 149 false (.load none (.t 152)),og 154 149 false (.bin .gtr (.t 151) (.t 153)),bzc 155 149 154] [155]
def bo2:=rg [
byu 2 1] [2]
def bo1:=rg [
byy 156 4 1,by6 157 156,byv 158 .neq 157 0,by8 159 158,og 160 159 false (.AH 5 (.t 1)),og 161 159 false (.load none (.t 160)),og 162 159 false (.bin .neq (.t 161) (ci 0)),bzc 163 159 162] [163]
def bo0:=rg [
byu 2 1] [2]
def boz:=rg [
byu 2 0] [2]
def Dx:AD:=(.seq Qy (.seq Qx (.cond (.t 15) (.seq Qw .ret) (.seq Qv (.cond (.t 23) (.seq Qu .ret) (.seq Qt (.seq Qs (.seq (.seq Qr (.block 0 (.seq Qq (.cond (.t 31) Qp (.seq bpg (.cond (.t 35) bpf (.seq bpe (.cond (.t 39) bpd (.seq bpc (.cond (.t 46) bpb .skip)))))))))) (.seq bpa (.cond (.t 66) (.seq bo9 .ret) (.seq (.seq bo8 (.block 1 (.loop av6))) (.seq bo7 (.seq bo6 (.cond (.t 132) (.seq bo5 .ret) (.seq (.seq bo4 (.cond (.t 135) (.seq bo3 (.cond (.t 155) (.seq bo2 .ret) .skip)) (.seq bo1 (.cond (.t 163) (.seq bo0 .ret) .skip)))) (.seq boz .ret))))))))))))))))
def lE:AP:=⟨1,[.t 2],Dx⟩
def a_af:=zzy (zzz 35 [bo2,.ret,.ret,.ret,.ret,.ret,.ret,.ret,.ret,.ret,.ret,.ret,.ret,.ret,.ret,.ret,asd,bo8,bo9,bpa,bpb,bpc,bpd,bpe,bpf,bpg,Qp,Qq,Qr,Qs,Qt,Qu,Qv,Qw,Qx,Qy]++[(36,[2]),(33,[2]),(32,[155]),(34,[163]),(31,[1,135]),(30,[2]),(29,[1,132]),(28,[1,7]),(20,[1,5]),(25,[1,5,6]),(27,[2]),(26,[1,5,6,104]),(24,[1,5,6,91]),(23,[1,5,6]),(22,[2]),(21,[1,5,88])])
def Pa:=rg [
oo 3 (.box 6 (.t 0)),byu 6 0,byu 7 0] [1,2,3]
def PZ:=rg [
by8 12 1,byv 13 .gtr 12 16,by8 14 13,by0 15 14 false 2,og 16 14 false (.bin .geq (.t 15) (ci 100)),bzc 17 14 16] [1,2,3,17]
def PY:=rg [
by8 18 2,bze 6 18,byu 7 4] [6,7]
def PX:=rg [
by7 19 6 3,byx 20 T4 [(.t 19)],bze 8 20] [1,2,3,8]
def PW:=rg [
by8 21 8,byv 22 .neq 21 0] [1,2,3,8,22]
def PV:=rg [
by8 23 2,by8 24 8,bze 6 23,bze 7 24] [6,7]
def PU:=rg [
by8 25 2,byv 26 .add 25 1,bze 2 26] [1,2,3]
def PT:=rg [
byu 9 0] [1,2,3,9]
def bk9:=rg [
by8 27 9,byy 28 2 3,by6 29 28,by5 30 false 29,byw 31 .lss 27 30] [1,2,3,9,31]
def bk8:=rg [
byy 35 2 3,by6 36 35,by8 37 9,by3 38 6 36 37,by7 39 6 38,by8 40 1,byv 41 .add 40 1,by8 42 2,byx 43 Ha [(.t 39),(.t 41),(.t 42)],by8 34 43,bzf 44 34 0,bzf 45 34 1,bze 10 44,bze 11 45] [1,3,9,10,11]
def arn:=rg [
by8 46 11,byv 47 .neq 46 0] [1,3,9,10,11,47]
def arm:=rg [
by8 48 10,by8 49 11,bze 6 48,bze 7 49] [6,7]
def arl:=rg [
by8 50 10,bze 2 50] [1,2,3,9]
def ark:=rg [
by8 32 9,byv 33 .add 32 1,bze 9 33] [1,2,3,9]
def av3:AD:=(.seq (.seq bk9 (.cond (.t 31) .skip (.exit 0))) (.seq (.block 1 (.seq bk8 (.seq (.seq arn (.cond (.t 47) (.seq arm .ret) .skip)) arl))) ark))
def bwb:=by1 av3.eq_1
def arj:=rg [
by8 51 2,bze 6 51,byu 7 0] [6,7]
def SR:AD:=(.seq Pa (.seq PZ (.cond (.t 17) (.seq PY .ret) (.seq PX (.seq PW (.cond (.t 22) (.seq PV .ret) (.seq PU (.seq (.seq PT (.block 0 (.loop av3))) (.seq arj .ret)))))))))
def kU:AP:=⟨3,[.t 6,.t 7],SR⟩
def a_aq:=zzy (zzz 13 [ark,.ret,.ret,.ret,.ret,bk9,PT,PU,PV,PW,PX,PY,PZ,Pa]++[(14,[6,7]),(9,[1,2,3,9]),(12,[6,7]),(11,[1,3,9,10,11,47]),(10,[1,3,9,10,11])])
def Kd:=rg [
oo 1 (.box 6 (.t 0)),byu 2 0] [1]
def Kc:=rg [
by7 6 6 1,byx 7 Ha [(.t 6),(ci 1),(ci 0)],by8 5 7,bzf 8 5 0,bzf 9 5 1,bze 3 8,bze 4 9] [4]
def Kb:=rg [
by8 10 4,bze 2 10] [2]
def aA:AD:=(.seq Kd (.seq Kc (.seq Kb .ret)))
def iY:AP:=⟨1,[.t 2],aA⟩
def a_dj:=zzy (zzz 2 [Kb,Kc,Kd])
def PS:=rg [
oo 2 (.box 6 (.t 0)),byu 4 0] [1,2]
def PR:=rg [
by8 8 1,byv 9 .gtr 8 20,by8 10 9,og 11 10 false (.AH 2 (.t 2)),og 12 10 false (.load none (.t 11)),og 13 10 false (.len false (.t 12)),og 14 10 false (.bin .gtr (.t 13) (ci 300)),bzc 15 10 14,by8 16 15,og 17 16 false (.AH 1 (.t 2)),og 18 16 false (.load none (.t 17)),og 19 16 false (.len false (.t 18)),og 20 16 false (.bin .gtr (.t 19) (ci 300)),bzc 21 16 20] [1,2,21]
def PQ:=rg [
byu 4 1000] [4]
def PO:=rg [
byu 5 1] [1,2,5]
def PN:=rg [
byu 6 0] [1,2,5,6]
def bk6:=rg [
by8 22 6,byy 23 1 2,by6 24 23,by5 25 false 24,byw 26 .lss 22 25] [1,2,5,6,26]
def bk5:=rg [
byy 29 1 2,by6 30 29,by8 31 6,by3 32 1 30 31,by6 33 32,by5 34 true 33,byv 35 .gtr 34 200] [1,2,5,6,35]
def bk4:=rg [
byu 4 1000] [4]
def bk3:=rg [
by8 27 6,byv 28 .add 27 1,bze 6 28] [1,2,5,6]
def bt0:AD:=(.seq (.seq bk6 (.cond (.t 26) .skip (.exit 0))) (.seq (.block 1 (.seq bk5 (.cond (.t 35) (.seq bk4 .ret) .skip))) bk3))
def bwc:=by1 bt0.eq_1
def bk7:=rg [
byu 7 0] [1,2,5,7]
def ari:=rg [
by8 36 7,byy 37 2 2,by6 38 37,by5 39 false 38,byw 40 .lss 36 39] [1,2,5,7,40]
def arh:=rg [
by8 43 5,byy 44 2 2,by6 45 44,by8 46 7,by3 47 6 45 46,by7 48 6 47,by8 49 1,byv 50 .add 49 1,byx 51 HZ [(.t 48),(.t 50)],byw 52 .add 43 51,bze 5 52] [1,2,5,7]
def arf:=rg [
by8 53 5,byv 54 .gtr 53 1000] [1,2,5,7,54]
def ard:=rg [
byu 4 1000] [4]
def arc:=rg [
by8 41 7,byv 42 .add 41 1,bze 7 42] [1,2,5,7]
def av2:AD:=(.seq (.seq ari (.cond (.t 40) .skip (.exit 2))) (.seq (.block 3 (.seq arh (.seq arf (.cond (.t 54) (.seq ard .ret) .skip)))) arc))
def bwd:=by1 av2.eq_1
def arb:=rg [
by8 55 5,bze 4 55] [4]
def Ia:AD:=(.seq PS (.seq PR (.cond (.t 21) (.seq PQ .ret) (.seq PO (.seq (.seq PN (.block 0 (.loop bt0))) (.seq (.seq bk7 (.block 2 (.loop av2))) (.seq arb .ret)))))))
def kT:AP:=⟨2,[.t 4],Ia⟩
def a_au:=zzy (zzz 14 [ard,arf,arh,.ret,.ret,.ret,.ret,.ret,.ret,bk6,PN,PO,PQ,PR,PS]++[(15,[4]),(11,[1,2,5,7]),(10,[1,2,5,7,40]),(9,[1,2,5,7]),(6,[1,2,5,6]),(8,[4]),(7,[1,2,5,6,35])])
def KG:=rg [
oo 1 (.box 6 (.t 0)),byt 2 false] [1]
def KF:=rg [
by7 4 6 1,byx 5 HZ [(.t 4),(ci 1)],bze 3 5] [3]
def KE:=rg [
by8 6 3,byv 7 .leq 6 150,bze 2 7] [2]
def Z3:AD:=(.seq KG (.seq KF (.seq KE .ret)))
def iP:AP:=⟨1,[.t 2],Z3⟩
def a_dw:=zzy (zzz 2 [KE,KF,KG])
def MQ:=rg [
oo 3 (.box 6 (.t 0)),oo 4 (.box 5 (.t 1)),oo 6 (.alloc [(.int .i64 0),.AB,.AB,(.int .i64 0),(.int .i64 0),(.int .i64 0)]),byt 7 false] [2,3,4,6]
def MP:=rg [
byy 8 0 3,by6 9 8] [2,3,4,6,9]
def MO:=rg [
byv 11 .eql 9 10,bze 10 11] [2,3,4,6,9,10]
def MN:=rg [
byu 2 0] [2,3,6]
def MM:=rg [
byv 13 .eql 9 11,bze 12 13] [2,3,4,6,9,12]
def ML:=rg [
by8 14 2,byv 15 .rem 14 2,bze 2 15] [2,3,6]
def MK:=rg [
byv 17 .eql 9 13,bze 16 17] [2,3,4,6,16]
def MJ:=rg [
byy 18 1 4,by6 19 18,byv 20 .lss 19 0,by8 21 20,og 22 21 false (.AH 1 (.t 4)),og 23 21 false (.load none (.t 22)),og 24 21 false (.AH 2 (.t 3)),og 25 21 false (.load none (.t 24)),og 26 21 false (.len false (.t 25)),og 27 21 false (.bin .geq (.t 23) (.t 26)),bzc 28 21 27] [3,4,6,28]
def MI:=rg [
oo 29 (.build [(.int .i64 0),.AB,.AB,(.int .i64 0),(.int .i64 0),(.int .i64 0)] []),bzd 6 6 29,byt 7 false] [6,7]
def MH:=rg [
byy 30 1 4,by6 31 30,bze 2 31] [2,3,6]
def bim:=rg [
by8 32 2,byy 33 2 3,by6 34 33,by5 35 false 34,byw 36 .geq 32 35] [2,3,6,36]
def bil:=rg [
oo 37 (.build [(.int .i64 0),.AB,.AB,(.int .i64 0),(.int .i64 0),(.int .i64 0)] []),bzd 6 6 37,byt 7 false] [6,7]
def bik:=rg [
byy 38 2 3,by6 39 38,by8 40 2,by3 41 6 39 40,by7 42 6 41,bzd 6 6 42,byt 7 true] [6,7]
def IZ:AD:=(.seq MQ (.seq (.seq MP (.block 0 (.seq MO (.cond (.t 10) MN (.seq MM (.cond (.t 12) ML (.seq MK (.cond (.t 16) (.seq (.seq MJ (.cond (.t 28) (.seq MI .ret) .skip)) MH) .skip)))))))) (.seq bim (.cond (.t 36) (.seq bil .ret) (.seq bik .ret)))))
def jS:AP:=⟨3,[.cell 6 (some 6),.t 7],IZ⟩
def a_cd:=zzy (zzz 12 [bik,bil,bim,MH,MI,MJ,MK,ML,MM,MN,MO,MP,MQ])
def M5:=rg [
oo 2 (.box 6 (.t 0)),oo 3 (.box 5 (.t 1)),byu 4 0] [2,3]
def M4:=rg [
byy 7 4 3,by6 8 7,by5 9 false 8,bze 5 9,byt 6 true] [2,5,6]
def M3:=rg [
byy 10 0 2,by6 11 10] [2,5,6,11]
def M1:=rg [
byv 13 .eql 11 11,bze 12 13] [2,5,6,11,12]
def M0:=rg [
byv 15 .eql 11 10,bze 14 15] [2,5,6,11,14]
def Mz:=rg [
byv 17 .eql 11 12,bze 16 17] [2,5,6,11,16]
def My:=rg [
byv 19 .eql 11 13,bze 18 19] [5,6,18]
def Mx:=rg [
by8 20 5,byv 21 .rem 20 2,byv 22 .eql 21 0,by8 23 5,byv 24 .quo 23 2,bze 6 22,bze 5 24] [5,6]
def Mw:=rg [
by8 25 6,by8 26 25,by0 27 26 true 5,og 28 26 true (.bin .gtr (.t 27) (ci 16384)),bzb 29 26 28] [6,29]
def Mv:=rg [
byu 4 4] [4]
def bi6:=rg [
by8 30 5,byy 31 2 2,by6 32 31,by5 33 false 32,byw 34 .eql 30 33,bze 6 34] [6]
def bi5:=rg [
by8 35 5,byv 36 .eql 35 1,bze 6 36] [6]
def bi4:=rg [
by8 37 6,bza 38 37] [38]
def bi3:=rg [
byu 4 1] [4]
def bi2:=rg [
byu 4 0] [4]
def aR:AD:=(.seq M5 (.seq M4 (.seq (.seq M3 (.block 0 (.seq (.block 4 (.seq (.block 3 (.seq (.block 2 (.seq (.block 1 (.seq (.seq (.seq M1 (.cond (.t 12) (.exit 1) .skip)) (.seq (.seq M0 (.cond (.t 14) (.exit 2) .skip)) (.seq (.seq Mz (.cond (.t 16) (.exit 3) .skip)) (.seq My (.cond (.t 18) (.exit 4) .skip))))) (.exit 0))) Mx)) (.seq (.seq Mw (.cond (.t 29) (.seq Mv .ret) .skip)) (.exit 0)))) (.seq bi6 (.exit 0)))) (.seq bi5 (.exit 0))))) (.seq bi4 (.cond (.t 38) (.seq bi3 .ret) (.seq bi2 .ret))))))
def jZ:AP:=⟨2,[.t 4],aR⟩
def a_br:=zzy (zzz 14 [bi2,bi3,bi4,bi5,bi6,Mv,Mw,Mx,My,Mz,M0,M1,M3,M4,M5])
def MT:=rg [
byu 2 0] [0]
def MS:=rg [
byu 3 0] [0,3]
def MR:=rg [
by8 6 0,by5 7 false 6,oo 8 (.mv (ci 0))] [3,6,7,8]
def bis:=rg [
byw 9 .lss 8 7] [3,6,7,8,9]
def bir:=rg [
by3 10 1 6 8,by6 11 10,bze 5 11] [3,5,6,7,8]
def biq:=rg [
by8 12 5,oo 13 (.bin .shr (.t 12) (.c (.int .u64 6))),oo 14 (.bin .neq (.t 13) (.c (.int .u8 2)))] [3,6,7,8,14]
def bip:=rg [
by8 15 3,byv 16 .add 15 1,bze 3 16] [3,6,7,8]
def bio:=rg [
byv 17 .add 8 1,by8 8 17] [3,6,7,8]
def btt:AD:=(.seq bis (.seq (.cond (.t 9) .skip (.exit 0)) (.seq (.block 1 (.seq bir (.seq biq (.cond (.t 14) bip .skip)))) bio)))
def bwe:=by1 btt.eq_1
def VS:=rg [
by8 18 3,bze 2 18] [2]
def aN:AD:=(.seq MT (.seq MS (.seq (.seq MR (.block 0 (.loop btt))) (.seq VS .ret))))
def jT:AP:=⟨1,[.t 2],aN⟩
def a_cc:=zzy (zzz 7 [bio,bip,biq,bir,bis,MR,MS,MT]++[(8,[2])])
def Lz:=rg [
oo 2 (.box 6 (.t 0)),oo 3 (.box 5 (.t 1)),byt 4 false] [2,3]
def Ly:=rg [
byy 5 0 2,by6 6 5] [2,3,6]
def Lx:=rg [
byv 8 .eql 6 16,bze 7 8] [2,3,6,7]
def Lw:=rg [
byv 9 .eql 6 17,bze 7 9] [2,3,6,7]
def Lv:=rg [
byv 11 .eql 6 7,bze 10 11] [3,6,10]
def Lu:=rg [
byv 12 .eql 6 8,bze 10 12] [3,10]
@[go_sem] def a1r:Ops:=[
byy 13 3 3,by6 14 13,byx 15 Tl [(.t 14)],byy 16 3 2,by6 17 16,byw 18 .gtr 15 17]
def a1s:List (Nat×Nat):=[(0,3),(1,3),(2,3),(0,4),(1,4),(2,4)]
def VO:AD:= .region a1r a1s [3,18]
@[go_sem] theorem r_cm_6_u:Gu X K s VO a1s a1r [3,18]:=Ab _ _ _ _
def Lt:=rg [
byt 4 true] [4]
def Ls:=rg [
byy 19 3 3,by6 20 19,by5 21 false 20,byv 22 .gtr 21 4096,bze 4 22] [4]
def Lr:=rg [
byt 4 false] [4]
def aL:AD:=(.seq Lz (.seq (.seq Ly (.block 0 (.seq (.block 2 (.seq (.block 1 (.seq (.seq (.seq (.seq Lx (.cond (.t 7) .skip Lw)) (.cond (.t 7) (.exit 1) .skip)) (.seq (.seq Lv (.cond (.t 10) .skip Lu)) (.cond (.t 10) (.exit 2) .skip))) (.exit 0))) (.seq VO (.cond (.t 18) (.seq Lt .ret) .skip)))) (.seq (.seq Ls .ret) (.exit 0))))) (.seq Lr .ret)))
def jO:AP:=⟨2,[.t 4],aL⟩
def a_cm:=zzy (zzz 9 [Lr,Ls,Lt,.ret,Lu,Lv,Lw,Lx,Ly,Lz]++[(6,[3,18])])
def JR:=rg [
byt 4 false] [0,1]
def JQ:=rg [
by8 5 0,oo 6 (.bin .geq (.t 5) (ci (-1099511627776))),by8 7 6,by0 8 7 true 0,og 9 7 true (.bin .leq (.t 8) (ci 1099511627776)),bzb 10 7 9,by8 11 10,by0 12 11 true 1,og 13 11 true (.bin .geq (.t 12) (ci 0)),bzb 14 11 13,by8 15 14,by0 16 15 true 1,og 17 15 true (.bin .leq (.t 16) (ci 999999999)),bzb 18 15 17,bze 4 18] [4]
def Zp:AD:=(.seq JR (.seq JQ .ret))
def gY:AP:=⟨2,[.t 4],Zp⟩
def a_fe:=zzy (zzz 1 [JQ,JR])
def NO:=rg [
byu 2 0] [0]
def NN:=rg [
byu 3 1] [0,3]
def NM:=rg [
by8 5 0,byx 6 Rj [(.t 5)],bze 4 6] [3,4]
def NL:=rg [
by8 8 4,oo 9 (.bin .geq (.t 8) (.c (.int .u64 10000000000000000))),bze 7 9] [3,4,7]
def NK:=rg [
by8 11 4,oo 12 (.bin .geq (.t 11) (.c (.int .u64 100000000))),bze 10 12] [3,4,10]
def NJ:=rg [
by8 13 3,byv 14 .add 13 8,bze 3 14] [3,4]
def NI:=rg [
by8 15 4,oo 16 (.bin .quo (.t 15) (.c (.int .u64 100000000))),bze 4 16] [3,4]
def NH:=rg [
by8 17 3,byv 18 .add 17 8,bze 3 18] [3,4]
def NG:=rg [
by8 19 4,oo 20 (.bin .quo (.t 19) (.c (.int .u64 100000000))),bze 4 20] [3,4]
def bi7:=rg [
by8 21 4,oo 22 (.bin .geq (.t 21) (.c (.int .u64 10)))] [3,4,22]
def apx:=rg [
by8 23 3,byv 24 .add 23 1,bze 3 24] [3,4]
def apw:=rg [
by8 25 4,oo 26 (.bin .quo (.t 25) (.c (.int .u64 10))),bze 4 26] [3,4]
def avv:AD:=(.seq (.seq bi7 (.cond (.t 22) .skip (.exit 4))) (.block 5 (.seq apx apw)))
def bwf:=by1 avv.eq_1
def apv:=rg [
by8 27 3,bze 2 27] [2]
def UI:AD:=(.seq NO (.seq NN (.seq (.seq NM (.block 0 (.seq (.block 3 (.seq (.block 2 (.seq (.block 1 (.seq (.seq (.seq NL (.cond (.t 7) (.exit 1) .skip)) (.seq NK (.cond (.t 10) (.exit 2) .skip))) (.exit 3))) (.seq NJ NI))) (.seq NH NG))) (.seq (.block 4 (.loop avv)) (.exit 0))))) (.seq apv .ret))))
def kB:AP:=⟨1,[.t 2],UI⟩
def a_bp:=zzy (zzz 11 [apw,apx,bi7,NG,NH,NI,NJ,NK,NL,NM,NN,NO]++[(12,[2])])
def Jd:=rg [
byt 4 false] [0,1]
def Jc:=rg [
by8 5 0,by8 6 1,byv 7 .sub 6 1,oo 8 (.bin .shl (ci (-1)) (.t 7)),byw 9 .geq 5 8,by8 10 9,by0 11 10 true 0,by0 12 10 true 1,og 13 10 true (.bin .sub (.t 12) (ci 1)),og 14 10 true (.bin .shl (ci 1) (.t 13)),og 15 10 true (.bin .sub (.t 14) (ci 1)),og 16 10 true (.bin .leq (.t 11) (.t 15)),bzb 17 10 16,bze 4 17] [4]
def UE:AD:=(.seq Jd (.seq Jc .ret))
def iC:AP:=⟨2,[.t 4],UE⟩
def a_ey:=zzy (zzz 1 [Jc,Jd])
def Ot:=rg [
oo 2 (.box 6 (.t 0)),oo 3 (.box 5 (.t 1)),byt 4 false] [2,3]
def Oq:=rg [
byy 5 0 2,by6 6 5] [2,3,6]
def Oo:=rg [
byv 8 .eql 6 0,bze 7 8] [2,3,6,7]
def On:=rg [
byy 9 1 3,by6 10 9,byv 11 .eql 10 0,by8 12 11,og 13 12 false (.AH 1 (.t 3)),og 14 12 false (.load none (.t 13)),og 15 12 false (.bin .eql (.t 14) (ci 1)),bzc 16 12 15,bze 4 16] [4]
def Om:=rg [
byv 18 .eql 6 1,bze 17 18] [2,3,6,17]
def Ol:=rg [
byy 19 1 3,by6 20 19,byx 21 Gv [(.t 20),(ci 8)],bze 4 21] [4]
def Ok:=rg [
byv 23 .eql 6 2,bze 22 23] [2,3,6,22]
def Oj:=rg [
byy 24 1 3,by6 25 24,byx 26 Gv [(.t 25),(ci 16)],bze 4 26] [4]
def Oi:=rg [
byv 28 .eql 6 3,bze 27 28] [2,3,6,27]
def Oh:=rg [
byv 29 .eql 6 15,bze 27 29] [2,3,6,27]
def bkp:=rg [
byy 30 1 3,by6 31 30,byx 32 Gv [(.t 31),(ci 32)],bze 4 32] [4]
def bko:=rg [
byv 34 .eql 6 4,bze 33 34] [2,3,6,33]
def bkn:=rg [
byt 4 true] [4]
def bkm:=rg [
byv 36 .eql 6 14,bze 35 36] [2,3,6,35]
@[go_sem] def ack:Ops:=[
byy 37 1 3,by6 38 37,byx 39 Tq [(.t 38)],byy 40 4 2,by6 41 40,byw 42 .leq 39 41,bze 4 42]
def acl:List (Nat×Nat):=[(0,3),(1,3),(2,3),(0,4),(1,4),(2,4)]
def bkl:AD:= .region ack acl [4]
@[go_sem] theorem r_az_14_u:Gu X K s bkl acl ack [4]:=Ab _ _ _ _
def bkk:=rg [
byv 44 .eql 6 9,bze 43 44] [2,3,6,43]
def bkj:=rg [
byy 45 1 3,by6 46 45,byy 47 2 3,by6 48 47,byx 49 TO [(.t 46),(.t 48)],bze 4 49] [4]
def bki:=rg [
byv 51 .eql 6 13,bze 50 51] [2,3,50]
def bkh:=rg [
byy 52 1 3,by6 53 52,byv 54 .geq 53 0,by8 55 54,og 56 55 true (.AH 1 (.t 3)),og 57 55 true (.load none (.t 56)),og 58 55 true (.AH 2 (.t 2)),og 59 55 true (.load none (.t 58)),og 60 55 true (.len false (.t 59)),og 61 55 true (.bin .lss (.t 57) (.t 60)),bzb 62 55 61,bze 4 62] [4]
def bkg:=rg [
byy 63 1 3,by6 64 63,byv 65 .eql 64 0,bze 4 65] [4]
def aX:AD:=(.seq Ot (.seq (.seq Oq (.block 0 (.seq Oo (.cond (.t 7) (.seq On .ret) (.seq Om (.cond (.t 17) (.seq Ol .ret) (.seq Ok (.cond (.t 22) (.seq Oj .ret) (.seq (.seq Oi (.cond (.t 27) .skip Oh)) (.cond (.t 27) (.seq bkp .ret) (.seq bko (.cond (.t 33) (.seq bkn .ret) (.seq bkm (.cond (.t 35) (.seq bkl .ret) (.seq bkk (.cond (.t 43) (.seq bkj .ret) (.seq bki (.cond (.t 50) (.seq bkh .ret) .skip)))))))))))))))))) (.seq bkg .ret)))
def kO:AP:=⟨2,[.t 4],aX⟩
def a_az:=zzy (zzz 19 [bkg,bkh,bki,bkj,bkk,.ret,bkm,bkn,bko,bkp,Oh,Oi,Oj,Ok,Ol,Om,On,Oo,Oq,Ot]++[(14,[4])])
def K4:=rg [
byt 2 false] [0]
def K3:=rg [
by8 3 0] [3]
def K2:=rg [
byv 5 .eql 3 10,bze 4 5] [3,4]
def K1:=rg [
byv 6 .eql 3 11,bze 4 6] [3,4]
def K0:=rg [
byv 8 .eql 3 12,bze 7 8] [3,7]
def Kz:=rg [
byv 9 .eql 3 13,bze 7 9] [7]
def Ky:=rg [
byt 2 false] [2]
def Kw:=rg [
byt 2 true] [2]
def aD:AD:=(.seq K4 (.seq (.seq K3 (.block 0 (.seq (.block 2 (.block 1 (.seq (.seq (.seq (.seq K2 (.cond (.t 4) .skip K1)) (.cond (.t 4) (.exit 1) .skip)) (.seq (.seq K0 (.cond (.t 7) .skip Kz)) (.cond (.t 7) (.exit 2) .skip))) (.exit 0)))) (.seq (.seq Ky .ret) (.exit 0))))) (.seq Kw .ret)))
def jC:AP:=⟨1,[.t 2],aD⟩
def a_de:=zzy (zzz 7 [Kw,Ky,Kz,K0,K1,K2,K3,K4])
def Kv:=rg [
byt 2 false] [0]
def Ku:=rg [
by8 3 0] [3]
def Kt:=rg [
byv 5 .eql 3 7,bze 4 5] [3,4]
def Ks:=rg [
byv 6 .eql 3 8,bze 4 6] [3,4]
def Kr:=rg [
byv 8 .eql 3 16,bze 7 8] [3,7]
def Kq:=rg [
byv 9 .eql 3 17,bze 7 9] [7]
def Ko:=rg [
byt 2 true] [2]
def Kn:=rg [
byt 2 false] [2]
def aC:AD:=(.seq Kv (.seq (.seq Ku (.block 0 (.seq (.block 2 (.block 1 (.seq (.seq (.seq (.seq Kt (.cond (.t 4) .skip Ks)) (.cond (.t 4) (.exit 1) .skip)) (.seq (.seq Kr (.cond (.t 7) .skip Kq)) (.cond (.t 7) (.exit 2) .skip))) (.exit 0)))) (.seq (.seq Ko .ret) (.exit 0))))) (.seq Kn .ret)))
def jB:AP:=⟨1,[.t 2],aC⟩
def a_df:=zzy (zzz 7 [Kn,Ko,Kq,Kr,Ks,Kt,Ku,Kv])
def Jw:=rg [
oo 2 (.box 6 (.t 0)),oo 3 (.box 5 (.t 1)),byt 4 false] [2,3]
def Jv:=rg [
byy 5 0 3,by6 6 5] [2,3,6]
def Ju:=rg [
byy 7 1 3,by6 8 7,byv 9 .eql 8 0,by8 10 9,og 11 10 true (.AH 2 (.t 3)),og 12 10 true (.load none (.t 11)),og 13 10 true (.bin .eql (.t 12) (ci 0)),bzb 14 10 13,by8 15 14,og 16 15 true (.AH 3 (.t 3)),og 17 15 true (.load none (.t 16)),og 18 15 true (.len false (.t 17)),og 19 15 true (.bin .eql (.t 18) (ci 0)),bzb 20 15 19,by8 21 20,og 22 21 true (.AH 4 (.t 3)),og 23 21 true (.load none (.t 22)),og 24 21 true (.len false (.t 23)),og 25 21 true (.bin .eql (.t 24) (ci 0)),bzb 26 21 25,bze 4 26] [4]
def Jt:=rg [
byy 27 2 3,by6 28 27,byv 29 .eql 28 0,by8 30 29,og 31 30 false (.AH 0 (.t 2)),og 32 30 false (.load none (.t 31)),og 33 30 false (.bin .eql (.t 32) (ci 9)),bzc 34 30 33,by8 35 34,og 36 35 true (.AH 3 (.t 3)),og 37 35 true (.load none (.t 36)),og 38 35 true (.len false (.t 37)),og 39 35 true (.bin .eql (.t 38) (ci 0)),by0 40 35 true 39,og 41 40 false (.AH 0 (.t 2)),og 42 40 false (.load none (.t 41)),og 43 40 false (.call false Tc [(.t 42)]),og 44 35 true (.pick (.t 40) (.c (.bool true)) (.t 43)),bzb 45 35 44,by8 46 45,og 47 46 true (.AH 4 (.t 3)),og 48 46 true (.load none (.t 47)),og 49 46 true (.len false (.t 48)),og 50 46 true (.bin .eql (.t 49) (ci 0)),by0 51 46 true 50,og 52 51 false (.AH 0 (.t 2)),og 53 51 false (.load none (.t 52)),og 54 51 false (.call false Td [(.t 53)]),og 55 51 false (.un .not (.t 54)),og 56 46 true (.pick (.t 51) (.c (.bool true)) (.t 55)),bzb 57 46 56,bze 4 57] [4]
def Zx:AD:=(.seq Jw (.seq Jv (.cond (.t 6) (.seq Ju .ret) (.seq Jt .ret))))
def iI:AP:=⟨2,[.t 4],Zx⟩
def a_eh:=zzy (zzz 3 [Jt,Ju,Jv,Jw])
def PH:=rg [
oo 2 (.box 6 (.t 0)),oo 3 (.box 5 (.t 1)),byu 4 0] [2,3]
def PG:=rg [
by7 12 6 2,by7 13 5 3,byx 14 TT [(.t 12),(.t 13)],bza 15 14,by8 16 15,og 17 16 false (.AH 0 (.t 3)),og 18 16 false (.load none (.t 17)),og 19 16 false (.un .not (.t 18)),by0 20 16 false 19,og 21 20 true (.load (some 6) (.t 2)),og 22 20 true (.load (some 5) (.t 3)),og 23 20 true (.call false Tw [(.t 21),(.t 22)]),og 24 20 true (.un .not (.t 23)),og 25 16 false (.pick (.t 20) (.t 24) (.c (.bool false))),bzc 26 16 25,bze 11 26] [2,3,11]
def PF:=rg [
byu 4 1] [4]
def PE:=rg [
byy 28 0 3,by6 29 28,bze 27 29] [2,3,27]
def PD:=rg [
byu 4 0] [4]
def PC:=rg [
by7 31 6 2,by7 32 5 3,byx 33 Ti [(.t 31),(.t 32)],bze 30 33] [2,3,30]
def PB:=rg [
byu 4 4] [4]
def PA:=rg [
by7 34 6 2,by7 35 5 3,byx 36 Tp [(.t 34),(.t 35)],bze 5 36] [2,3,5]
def O9:=rg [
by8 37 5,byv 38 .neq 37 0] [2,3,5,38]
def O8:=rg [
by8 39 5,bze 4 39] [4]
def bkx:=rg [
byy 40 4 3,by6 41 40,by5 42 false 41,oo 43 (.mv (ci 0))] [2,3,41,42,43]
def aq6:=rg [
byw 44 .lss 43 42] [2,3,41,42,43,44]
def aq5:=rg [
by8 45 43,by3 46 5 41 43,by7 47 5 46,oo 7 (.alloc [(.bool false),(.int .i64 0),(.int .i64 0),.AB,.AB]),bze 6 45,bzd 5 7 47] [2,3,6,7,41,42,43]
def aq4:=rg [
by7 49 6 2,by7 50 5 3,by8 51 6,byx 52 Tk [(.t 49),(.t 50),(.t 51)],by8 48 52,bzf 53 48 0,bzf 54 48 1,oo 8 (.alloc [(.int .i64 0),.AB,.AB,(.int .i64 0),(.int .i64 0),(.int .i64 0)]),bzd 6 8 53,bze 9 54] [2,3,6,7,8,9,41,42,43]
def aq3:=rg [
by8 55 9,bza 56 55,by8 57 56,og 58 57 false (.AH 0 (.t 2)),og 59 57 false (.load none (.t 58)),og 60 57 false (.bin .eql (.t 59) (ci 11)),by0 61 57 false 60,by0 62 61 true 6,og 63 61 true (.bin .rem (.t 62) (ci 2)),og 64 61 true (.bin .eql (.t 63) (ci 0)),og 65 57 false (.pick (.t 61) (.t 64) (.c (.bool false))),by0 66 57 false 65,og 67 66 true (.AH 0 (.t 7)),og 68 66 true (.load none (.t 67)),og 69 57 false (.pick (.t 66) (.t 68) (.c (.bool false))),bzc 70 57 69] [2,3,7,8,41,42,43,70]
def aq2:=rg [
byu 4 1] [4]
def aq1:=rg [
by7 71 6 8,by7 72 5 7,byx 73 Gz [(.t 71),(.t 72)],bze 10 73] [2,3,10,41,42,43]
def aq0:=rg [
by8 74 10,byv 75 .neq 74 0] [2,3,10,41,42,43,75]
def aqz:=rg [
by8 76 10,bze 4 76] [4]
def aqy:=rg [
byv 77 .add 43 1,by8 43 77] [2,3,41,42,43]
def av0:AD:=(.seq aq6 (.seq (.cond (.t 44) .skip (.exit 1)) (.seq (.block 2 (.seq (.seq (.free 7) aq5) (.seq (.seq (.free 8) aq4) (.seq (.seq aq3 (.cond (.t 70) (.seq aq2 .ret) .skip)) (.seq aq1 (.seq aq0 (.cond (.t 75) (.seq aqz .ret) .skip))))))) aqy)))
def bwg:=by1 av0.eq_1
def aqx:=rg [
byu 4 0] [4]
def aZ:AD:=(.seq PH (.seq (.block 0 (.seq PG (.cond (.t 11) (.seq PF .ret) (.seq PE (.cond (.t 27) (.seq PD .ret) (.seq PC (.cond (.t 30) (.seq PB .ret) .skip))))))) (.seq (.seq PA (.seq O9 (.cond (.t 38) (.seq O8 .ret) .skip))) (.seq (.seq bkx (.block 1 (.loop av0))) (.seq aqx .ret)))))
def kR:AP:=⟨2,[.t 4],aZ⟩
def a_aw:AG:=⟨[],zzz 19 [aqy,aqz,aq0,aq1,aq2,aq3,aq4,aq5,aq6,bkx,O8,O9,PA,PB,PC,PD,PE,PF,PG,PH]++[(20,[4])],[],[(12,[7]),(13,[8])],[],[]⟩
def I8:=rg [
oo 1 (.box 8 (.t 0)),oo 2 (.alloc [(.int .i64 0),.AB,.AB,(.int .i64 0),(.int .i64 0),(.int .i64 0)])] [1,2]
def I7:=rg [
byy 3 0 1,by6 4 3,byy 5 3 1,by6 6 5,byy 7 4 1,by6 8 7,byy 9 5 1,by6 10 9,oo 11 (.build [(.int .i64 0),.AB,.AB,(.int .i64 0),(.int .i64 0),(.int .i64 0)] [(0,1,(.t 4)),(3,1,(.t 6)),(4,1,(.t 8)),(5,1,(.t 10))]),bzd 6 2 11] [2]
def Zk:AD:=(.seq I8 (.seq I7 .ret))
def gN:AP:=⟨1,[.cell 2 (some 6)],Zk⟩
def a_fq:=zzy (zzz 1 [I7,I8])
def MA:=rg [
byu 6 0] [0,1,2]
def L9:=rg [
by8 10 0,by9 11 10,byy 12 8 11,by6 13 12,by8 14 1,byx 15 Hy [(.t 13),(.t 14)],by8 9 15,bzf 16 9 0,bzf 17 9 1,bze 7 16,bze 8 17] [0,2,7,8]
def L8:=rg [
by8 18 0,by8 19 0,by9 20 19,byy 21 9 20,by6 22 21,by8 23 22,by0 24 23 true 8,by0 25 23 true 2,og 26 23 true (.eqn false .bool (.t 24) (.t 25)),bzb 27 23 26,by8 28 27,by0 29 28 true 7,og 30 28 true (.bin .leq (.t 29) (.c (.int .u64 4294967295))),bzb 31 28 30,by9 32 18,byy 33 9 32,bzd 1 33 31] [7]
def L7:=rg [
by8 34 7,oo 35 (.Aj .i64 (.t 34)),bze 6 35] [6]
def XN:AD:=(.seq MA (.seq L9 (.seq L8 (.seq L7 .ret))))
def jQ:AP:=⟨3,[.t 6],XN⟩
def a_ck:=zzy (zzz 3 [L7,L8,L9,MA])
def Jl:=rg [
byu 4 0,byt 5 false] [0,1]
def Jk:=rg [
by8 7 0,by8 8 1,byw 9 .add 7 8,bze 6 9] [0,1,6]
def Jj:=rg [
by8 10 6,by8 11 0,byw 12 .gtr 10 11,by8 13 1,byv 14 .gtr 13 0,oo 15 (.eqn true .bool (.t 12) (.t 14)),by8 16 15,by0 17 16 true 1,og 18 16 true (.bin .neq (.t 17) (ci 0)),bzb 19 16 18] [6,19]
def Ji:=rg [
byu 4 0,byt 5 false] [4,5]
def Jh:=rg [
by8 20 6,bze 4 20,byt 5 true] [4,5]
def SN:AD:=(.seq Jl (.seq Jk (.seq Jj (.cond (.t 19) (.seq Ji .ret) (.seq Jh .ret)))))
def iE:AP:=⟨2,[.t 4,.t 5],SN⟩
def a_er:=zzy (zzz 4 [Jh,Ji,Jj,Jk,Jl])
def JV:=rg [
oo 2 (.asg (.c (.int .u64 0)))] [0]
def JU:=rg [
by8 3 0,byv 4 .lss 3 0] [0,4]
def JT:=rg [
by8 5 0,oo 6 (.Aj .u64 (.t 5)),oo 7 (.un .neg (.t 6)),bze 2 7] [2]
def JS:=rg [
by8 8 0,oo 9 (.Aj .u64 (.t 8)),bze 2 9] [2]
def Zq:AD:=(.seq JV (.seq JU (.cond (.t 4) (.seq JT .ret) (.seq JS .ret))))
def hP:AP:=⟨1,[.t 2],Zq⟩
def a_fb:=zzy (zzz 3 [JS,JT,JU,JV])
def LZ:=rg [
byu 4 0,byt 5 false] [0,1]
def LY:=rg [
by8 9 0,byv 10 .eql 9 0,by8 11 10,by0 12 11 false 1,og 13 11 false (.bin .eql (.t 12) (ci 0)),bzc 14 11 13] [0,1,14]
def LX:=rg [
byu 4 0,byt 5 true] [4,5]
def LW:=rg [
by8 16 0,byx 17 Rh [(.t 16)],by8 18 1,byx 19 Rh [(.t 18)],byx 20 V1 [(.t 17),(.t 19)],by8 15 20,bzf 21 15 0,bzf 22 15 1,bze 6 21,bze 7 22] [0,1,6,7]
def LV:=rg [
by8 23 0,byv 24 .lss 23 0,by8 25 1,byv 26 .lss 25 0,oo 27 (.eqn true .bool (.t 24) (.t 26)),bze 8 27] [6,7,8]
def LU:=rg [
by8 29 6,oo 30 (.bin .neq (.t 29) (.c (.int .u64 0))),by8 31 30,by0 32 31 false 7,og 33 31 false (.bin .gtr (.t 32) (.c (.int .u64 9223372036854775808))),bzc 34 31 33,by8 35 34,by0 36 35 false 7,og 37 35 false (.bin .eql (.t 36) (.c (.int .u64 9223372036854775808))),by0 38 35 false 37,by0 39 38 true 8,og 40 38 true (.un .not (.t 39)),og 41 35 false (.pick (.t 38) (.t 40) (.c (.bool false))),bzc 42 35 41,bze 28 42] [7,8,28]
def LS:=rg [
byu 4 0,byt 5 false] [4,5]
def LR:=rg [
by8 44 8,bze 43 44] [7,43]
def LQ:=rg [
by8 45 7,oo 46 (.Aj .i64 (.t 45)),oo 47 (.un .neg (.t 46)),bze 4 47,byt 5 true] [4,5]
def LP:=rg [
by8 48 7,oo 49 (.Aj .i64 (.t 48)),bze 4 49,byt 5 true] [4,5]
def Hg:AD:=(.seq LZ (.seq LY (.cond (.t 14) (.seq LX .ret) (.seq LW (.seq LV (.seq (.block 0 (.seq LU (.cond (.t 28) (.seq LS .ret) (.seq LR (.cond (.t 43) (.seq LQ .ret) .skip))))) (.seq LP .ret)))))))
def jJ:AP:=⟨2,[.t 4,.t 5],Hg⟩
def a_cx:=zzy (zzz 9 [LP,LQ,LR,LS,LU,LV,LW,LX,LY,LZ])
def JN:=rg [
byt 2 false] [0]
def JM:=rg [
by8 3 0,oo 4 (.bin .neq (.t 3) (.c (.str []))),by8 5 4,by0 6 5 true 0,og 7 5 true (.call false V2 [(.t 6),(.c (.str [48,49,50,51,52,53,54,55,56,57]))]),og 8 5 true (.bin .eql (.t 7) (.c (.str []))),bzb 9 5 8,bze 2 9] [2]
def XI:AD:=(.seq JN (.seq JM .ret))
def gW:AP:=⟨1,[.t 2],XI⟩
def a_fg:=zzy (zzz 1 [JM,JN])
def L6:=rg [
oo 4 (.asg (.c (.str []))),oo 5 (.asg (.c (.str []))),byt 6 false] [0,1]
def L5:=rg [
by8 8 0,by8 9 1,byx 10 V3 [(.t 8),(.t 9)],bze 7 10] [0,1,7]
def L4:=rg [
by8 11 7,byv 12 .geq 11 0] [0,1,7,12]
@[go_sem] def a10:Ops:=[
by8 13 0,by8 14 7,oo 15 (.CK (.t 13) none (some (.t 14))),by8 16 0,by8 17 7,by8 18 1,by5 19 true 18,byw 20 .add 17 19,oo 21 (.CK (.t 16) (some (.t 20)) none),bze 4 15,bze 5 21,byt 6 true]
def a11:List (Nat×Nat):=[(0,1),(0,3),(1,3),(2,3),(0,4),(1,4),(2,4),(3,4),(0,5),(1,5),(2,5),(3,5),(4,5),(0,6),(1,6),(2,6),(3,6),(4,6),(0,7),(1,7),(2,7),(3,7),(0,8),(1,8),(2,8),(3,9),(4,9),(5,9),(6,9),(7,9),(8,9)]
def VP:AD:= .region a10 a11 [4,5,6]
@[go_sem] theorem r_cl_3_u:Gu X K s VP a11 a10 [4,5,6]:=Ab _ _ _ _
def L3:=rg [
by8 22 0,bze 4 22,oo 5 (.asg (.c (.str []))),byt 6 false] [4,5,6]
def XM:AD:=(.seq L6 (.seq (.seq L5 (.seq L4 (.cond (.t 12) (.seq VP .ret) .skip))) (.seq L3 .ret)))
def jP:AP:=⟨2,[.t 4,.t 5,.t 6],XM⟩
def a_cl:=zzy (zzz 4 [L3,.ret,L4,L5,L6]++[(3,[4,5,6])])
def JP:=rg [
oo 4 (.asg (.c (.str []))),oo 5 (.asg (.c (.str []))),byt 6 false] [0,1]
def JO:=rg [
by8 7 0,by8 8 1,byx 9 Tj [(.t 7),(.t 8)],bzf 10 9 0,bzf 11 9 1,bzf 12 9 2,bze 4 10,bze 5 11,bze 6 12] [4,5,6]
def Zo:AD:=(.seq JP (.seq JO .ret))
def gX:AP:=⟨2,[.t 4,.t 5,.t 6],Zo⟩
def a_ff:=zzy (zzz 1 [JO,JP])
def Lj:=rg [
byt 4 false] [0,1]
def Li:=rg [
by8 5 0,by5 6 true 5,by8 7 1,by5 8 true 7,byw 9 .geq 6 8,by8 10 9,by0 11 10 true 0,by0 12 10 true 1,og 13 10 true (.len true (.t 12)),og 14 10 true (.CK (.t 11) none (some (.t 13))),by0 15 10 true 1,og 16 10 true (.bin .eql (.t 14) (.t 15)),bzb 17 10 16,bze 4 17] [4]
def XL:AD:=(.seq Lj (.seq Li .ret))
def jL:AP:=⟨2,[.t 4],XL⟩
def a_cr:=zzy (zzz 1 [Li,Lj])
def bwh:=byz OA.eq_1 N9.eq_1 bj7.eq_1 bj6.eq_1 Vb.eq_1 VY.eq_1 N8.eq_1 VX.eq_1
def bwi:=byz Og.eq_1 Od.eq_1 Oc.eq_1 Ka.eq_1 KZ.eq_1 KY.eq_1 KX.eq_1 Lb.eq_1
def bwj:=byz La.eq_1 Mp.eq_1 bix.eq_1 biw.eq_1 biv.eq_1 biu.eq_1 Jn.eq_1 Jm.eq_1
def bwk:=byz MD.eq_1 MC.eq_1 MB.eq_1 RP.eq_1 RO.eq_1 RN.eq_1 RM.eq_1 RL.eq_1
def bwl:=byz RJ.eq_1 RI.eq_1 RH.eq_1 RG.eq_1 bq7.eq_1 bq6.eq_1 bq5.eq_1 bq3.eq_1
def bwm:=byz bq2.eq_1 bq1.eq_1 bq0.eq_1 bqz.eq_1 bqy.eq_1 bqx.eq_1 bqw.eq_1 bqv.eq_1
def bwn:=byz bqt.eq_1 bqs.eq_1 bqr.eq_1 bqq.eq_1 bqp.eq_1 bqn.eq_1 bqm.eq_1 bql.eq_1
def bwo:=byz bqk.eq_1 bqj.eq_1 bqi.eq_1 bqh.eq_1 bqe.eq_1 bqd.eq_1 bqc.eq_1 bqb.eq_1
def bwp:=byz bqa.eq_1 bp9.eq_1 Jz.eq_1 Jy.eq_1 RS.eq_1 RR.eq_1 RQ.eq_1 brl.eq_1
def bwq:=byz brk.eq_1 brj.eq_1 bri.eq_1 RX.eq_1 RW.eq_1 RV.eq_1 RU.eq_1 brq.eq_1
def bwr:=byz bro.eq_1 brn.eq_1 brm.eq_1 LI.eq_1 LH.eq_1 Js.eq_1 Jr.eq_1 Mf.eq_1
def bws:=byz Me.eq_1 Md.eq_1 Mc.eq_1 Mb.eq_1 Ma.eq_1 MZ.eq_1 MY.eq_1 MX.eq_1
def bwt:=byz NY.eq_1 NX.eq_1 NW.eq_1 bjb.eq_1 bja.eq_1 bi9.eq_1 bi8.eq_1 VW.eq_1
def bwu:=byz LK.eq_1 LJ.eq_1 KD.eq_1 KC.eq_1 Mr.eq_1 Mq.eq_1 bi1.eq_1 bi0.eq_1
def bwv:=byz biz.eq_1 biy.eq_1 LO.eq_1 LN.eq_1 LM.eq_1 LL.eq_1 KT.eq_1 KS.eq_1
def bww:=byz QH.eq_1 QG.eq_1 QF.eq_1 QE.eq_1 QD.eq_1 QC.eq_1 QB.eq_1 QA.eq_1
def bwx:=byz P9.eq_1 P8.eq_1 bm0.eq_1 bmz.eq_1 bmy.eq_1 bmx.eq_1 bmw.eq_1 bmv.eq_1
def bwy:=byz bmt.eq_1 bms.eq_1 bmr.eq_1 bmq.eq_1 bmp.eq_1 Qo.eq_1 Qn.eq_1 Qm.eq_1
def bwz:=byz Ql.eq_1 Qk.eq_1 Qj.eq_1 Qi.eq_1 Qh.eq_1 Qg.eq_1 boy.eq_1 bow.eq_1
def bw0:=byz bov.eq_1 bou.eq_1 bot.eq_1 bos.eq_1 boq.eq_1 bop.eq_1 boo.eq_1 bon.eq_1
def bw1:=byz bom.eq_1 bol.eq_1 bok.eq_1 boj.eq_1 boi.eq_1 boh.eq_1 ar4.eq_1 ar3.eq_1
def bw2:=byz ar2.eq_1 ar0.eq_1 arz.eq_1 ary.eq_1 arx.eq_1 Km.eq_1 Kl.eq_1 Kk.eq_1
def bw3:=byz Kj.eq_1 Ki.eq_1 Kh.eq_1 Kg.eq_1 Ke.eq_1 Mo.eq_1 Mn.eq_1 Mm.eq_1
def bw4:=byz Ml.eq_1 Mk.eq_1 Mj.eq_1 Mi.eq_1 Mh.eq_1 Mg.eq_1 RF.eq_1 RE.eq_1
def bw5:=byz RD.eq_1 RC.eq_1 RB.eq_1 bp8.eq_1 bp7.eq_1 bp6.eq_1 bp5.eq_1 bp4.eq_1
def bw6:=byz asw.eq_1 asv.eq_1 asu.eq_1 ast.eq_1 ass.eq_1 asr.eq_1 asq.eq_1 asp.eq_1
def bw7:=byz aso.eq_1 asn.eq_1 y9.eq_1 y8.eq_1 y7.eq_1 yz.eq_1 asm.eq_1 asl.eq_1
def bw8:=byz ask.eq_1 asj.eq_1 asi.eq_1 yy.eq_1 yw.eq_1 yu.eq_1 yt.eq_1 yr.eq_1
def bw9:=byz yp.eq_1 yo.eq_1 yn.eq_1 qq.eq_1 Pz.eq_1 Py.eq_1 Px.eq_1 bmh.eq_1
def bxa:=byz bmg.eq_1 bmf.eq_1 bme.eq_1 bmd.eq_1 bmc.eq_1 bmb.eq_1 arw.eq_1 arv.eq_1
def bxb:=byz aru.eq_1 art.eq_1 yl.eq_1 yk.eq_1 K9.eq_1 K8.eq_1 K7.eq_1 K6.eq_1
def bxc:=byz K5.eq_1 KN.eq_1 KM.eq_1 KL.eq_1 LD.eq_1 LC.eq_1 LB.eq_1 LA.eq_1
def bxd:=byz N7.eq_1 N6.eq_1 N5.eq_1 N4.eq_1 bj5.eq_1 bj4.eq_1 bj3.eq_1 bj2.eq_1
def bxe:=byz bj1.eq_1 aqb.eq_1 Ob.eq_1 Oa.eq_1 OZ.eq_1 OY.eq_1 OX.eq_1 OW.eq_1
def bxf:=byz KK.eq_1 KJ.eq_1 KI.eq_1 KH.eq_1 LG.eq_1 LF.eq_1 Ns.eq_1 Nr.eq_1
def bxg:=byz Nq.eq_1 Np.eq_1 bjo.eq_1 bjn.eq_1 bjm.eq_1 bjl.eq_1 bjk.eq_1 aqa.eq_1
def bxh:=byz Ox.eq_1 Ow.eq_1 Ov.eq_1 Ou.eq_1 bku.eq_1 bkt.eq_1 bks.eq_1 bkr.eq_1
def bxi:=byz bkq.eq_1 aqk.eq_1 aqj.eq_1 aqi.eq_1 aqh.eq_1 aqg.eq_1 RA.eq_1 Q9.eq_1
def bxj:=byz Q8.eq_1 Q7.eq_1 Q6.eq_1 Q5.eq_1 Q4.eq_1 Q3.eq_1 Q0.eq_1 Qz.eq_1
def bxk:=byz bp3.eq_1 bp2.eq_1 bp1.eq_1 bp0.eq_1 bpz.eq_1 bpy.eq_1 bpx.eq_1 bpw.eq_1
def bxl:=byz bpv.eq_1 bpu.eq_1 bpt.eq_1 bps.eq_1 bpr.eq_1 bpq.eq_1 bpp.eq_1 bpo.eq_1
def bxm:=byz bpn.eq_1 bpm.eq_1 bpl.eq_1 bpk.eq_1 bpj.eq_1 bpi.eq_1 bph.eq_1 ash.eq_1
def bxn:=byz ase.eq_1 ym.eq_1 PM.eq_1 PL.eq_1 PK.eq_1 PJ.eq_1 PI.eq_1 bk2.eq_1
def bxo:=byz bk1.eq_1 bk0.eq_1 bkz.eq_1 bky.eq_1 ara.eq_1 aq9.eq_1 aq8.eq_1 aq7.eq_1
def bxp:=byz brh.eq_1 brg.eq_1 brf.eq_1 bre.eq_1 brd.eq_1 brc.eq_1 brb.eq_1 bra.eq_1
def bxq:=byz bq9.eq_1 bq8.eq_1 au3.eq_1 au2.eq_1 au1.eq_1 au0.eq_1 auz.eq_1 auy.eq_1
def bxr:=byz aux.eq_1 auw.eq_1 auv.eq_1 auu.eq_1 aut.eq_1 aus.eq_1 aur.eq_1 auq.eq_1
def bxs:=byz aup.eq_1 auo.eq_1 aun.eq_1 aum.eq_1 aul.eq_1 auk.eq_1 auj.eq_1 aui.eq_1
def bxt:=byz auh.eq_1 aug.eq_1 auf.eq_1 aue.eq_1 aud.eq_1 auc.eq_1 aub.eq_1 aua.eq_1
def bxu:=byz at9.eq_1 at8.eq_1 at7.eq_1 at6.eq_1 at5.eq_1 at4.eq_1 at3.eq_1 at2.eq_1
def bxv:=byz at1.eq_1 at0.eq_1 atz.eq_1 aty.eq_1 atx.eq_1 atw.eq_1 atv.eq_1 atu.eq_1
def bxw:=byz att.eq_1 ats.eq_1 atr.eq_1 atq.eq_1 atp.eq_1 ato.eq_1 atn.eq_1 atm.eq_1
def bxx:=byz atl.eq_1 atk.eq_1 atj.eq_1 ati.eq_1 ath.eq_1 atg.eq_1 atf.eq_1 ate.eq_1
def bxy:=byz atd.eq_1 atc.eq_1 atb.eq_1 ata.eq_1 as9.eq_1 as8.eq_1 as7.eq_1 as6.eq_1
def bxz:=byz as5.eq_1 as4.eq_1 as3.eq_1 as2.eq_1 as1.eq_1 as0.eq_1 asz.eq_1 asy.eq_1
def bx0:=byz asx.eq_1 Qy.eq_1 Qx.eq_1 Qw.eq_1 Qv.eq_1 Qu.eq_1 Qt.eq_1 Qs.eq_1
def bx1:=byz Qr.eq_1 Qq.eq_1 Qp.eq_1 bpg.eq_1 bpf.eq_1 bpe.eq_1 bpd.eq_1 bpc.eq_1
def bx2:=byz bpb.eq_1 bpa.eq_1 bo9.eq_1 bo8.eq_1 asd.eq_1 asc.eq_1 asb.eq_1 asa.eq_1
def bx3:=byz ar9.eq_1 ar7.eq_1 ar6.eq_1 ar5.eq_1 bo7.eq_1 bo6.eq_1 bo5.eq_1 bo4.eq_1
def bx4:=byz bo3.eq_1 bo2.eq_1 bo1.eq_1 bo0.eq_1 boz.eq_1 Pa.eq_1 PZ.eq_1 PY.eq_1
def bx5:=byz PX.eq_1 PW.eq_1 PV.eq_1 PU.eq_1 PT.eq_1 bk9.eq_1 bk8.eq_1 arn.eq_1
def bx6:=byz arm.eq_1 arl.eq_1 ark.eq_1 arj.eq_1 Kd.eq_1 Kc.eq_1 Kb.eq_1 PS.eq_1
def bx7:=byz PR.eq_1 PQ.eq_1 PO.eq_1 PN.eq_1 bk6.eq_1 bk5.eq_1 bk4.eq_1 bk3.eq_1
def bx8:=byz bk7.eq_1 ari.eq_1 arh.eq_1 arf.eq_1 ard.eq_1 arc.eq_1 arb.eq_1 KG.eq_1
def bx9:=byz KF.eq_1 KE.eq_1 MQ.eq_1 MP.eq_1 MO.eq_1 MN.eq_1 MM.eq_1 ML.eq_1
def bya:=byz MK.eq_1 MJ.eq_1 MI.eq_1 MH.eq_1 bim.eq_1 bil.eq_1 bik.eq_1 M5.eq_1
def byb:=byz M4.eq_1 M3.eq_1 M1.eq_1 M0.eq_1 Mz.eq_1 My.eq_1 Mx.eq_1 Mw.eq_1
def byc:=byz Mv.eq_1 bi6.eq_1 bi5.eq_1 bi4.eq_1 bi3.eq_1 bi2.eq_1 MT.eq_1 MS.eq_1
def byd:=byz MR.eq_1 bis.eq_1 bir.eq_1 biq.eq_1 bip.eq_1 bio.eq_1 VS.eq_1 Lz.eq_1
def bye:=byz Ly.eq_1 Lx.eq_1 Lw.eq_1 Lv.eq_1 Lu.eq_1 Lt.eq_1 Ls.eq_1 Lr.eq_1
def byf:=byz JR.eq_1 JQ.eq_1 NO.eq_1 NN.eq_1 NM.eq_1 NL.eq_1 NK.eq_1 NJ.eq_1
def byg:=byz NI.eq_1 NH.eq_1 NG.eq_1 bi7.eq_1 apx.eq_1 apw.eq_1 apv.eq_1 Jd.eq_1
def byh:=byz Jc.eq_1 Ot.eq_1 Oq.eq_1 Oo.eq_1 On.eq_1 Om.eq_1 Ol.eq_1 Ok.eq_1
def byi:=byz Oj.eq_1 Oi.eq_1 Oh.eq_1 bkp.eq_1 bko.eq_1 bkn.eq_1 bkm.eq_1 bkk.eq_1
def byj:=byz bkj.eq_1 bki.eq_1 bkh.eq_1 bkg.eq_1 K4.eq_1 K3.eq_1 K2.eq_1 K1.eq_1
def byk:=byz K0.eq_1 Kz.eq_1 Ky.eq_1 Kw.eq_1 Kv.eq_1 Ku.eq_1 Kt.eq_1 Ks.eq_1
def byl:=byz Kr.eq_1 Kq.eq_1 Ko.eq_1 Kn.eq_1 Jw.eq_1 Jv.eq_1 Ju.eq_1 Jt.eq_1
def bym:=byz PH.eq_1 PG.eq_1 PF.eq_1 PE.eq_1 PD.eq_1 PC.eq_1 PB.eq_1 PA.eq_1
def byn:=byz O9.eq_1 O8.eq_1 bkx.eq_1 aq6.eq_1 aq5.eq_1 aq4.eq_1 aq3.eq_1 aq2.eq_1
def byo:=byz aq1.eq_1 aq0.eq_1 aqz.eq_1 aqy.eq_1 aqx.eq_1 I8.eq_1 I7.eq_1 MA.eq_1
def byp:=byz L9.eq_1 L8.eq_1 L7.eq_1 Jl.eq_1 Jk.eq_1 Jj.eq_1 Ji.eq_1 Jh.eq_1
def byq:=byz JV.eq_1 JU.eq_1 JT.eq_1 JS.eq_1 LZ.eq_1 LY.eq_1 LX.eq_1 LW.eq_1
def byr:=byz LV.eq_1 LU.eq_1 LS.eq_1 LR.eq_1 LQ.eq_1 LP.eq_1 JN.eq_1 JM.eq_1
def bys:=byz L6.eq_1 L5.eq_1 L4.eq_1 L3.eq_1 JP.eq_1 JO.eq_1 Lj.eq_1 Li.eq_1
attribute [go_sem] bvu bvv bvw bvx bvy bvz bv0 bv1 bv2 bv3 bv4 bv5 bv6 bv7 bv8 bv9 bwa bwb bwc bwd bwe bwf bwg bwh bwi bwj bwk bwl bwm bwn bwo bwp bwq bwr bws bwt bwu bwv bww bwx bwy bwz bw0 bw1 bw2 bw3 bw4 bw5 bw6 bw7 bw8 bw9 bxa bxb bxc bxd bxe bxf bxg bxh bxi bxj bxk bxl bxm bxn bxo bxp bxq bxr bxs bxt bxu bxv bxw bxx bxy bxz bx0 bx1 bx2 bx3 bx4 bx5 bx6 bx7 bx8 bx9 bya byb byc byd bye byf byg byh byi byj byk byl bym byn byo byp byq byr bys
