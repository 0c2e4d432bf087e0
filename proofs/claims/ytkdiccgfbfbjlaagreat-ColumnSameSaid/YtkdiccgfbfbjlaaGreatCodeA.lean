import Derived.Test.YtkdiccgfbfbjlaaGreatOrc
import Derived.Test.YtkdiccgfbfbjlaaGreatChecked
namespace Go.Proofs.YtkdiccgfbfbjlaaGreat
set_option linter.defProp false
open Go.Ev Go
variable {X:Kx} {K:List Kf} {s:St}
def qm:TypeId:=9
def Rs:FuncId:=4
def Xd:FuncId:=8
def Rb:FuncId:=9
def Hl:FuncId:=10
def RC:FuncId:=12
def Rf:FuncId:=13
def Q5:FuncId:=14
def Hq:FuncId:=15
def Pw:FuncId:=16
def Pm:FuncId:=17
def RB:FuncId:=25
def RE:FuncId:=26
def UT:FuncId:=27
def Hv:FuncId:=28
def Q4:FuncId:=31
def n_gk:FuncId:=32
def Hu:FuncId:=33
def Q3:FuncId:=34
def FZ:FuncId:=35
def Po:FuncId:=36
def Pu:FuncId:=37
def RH:FuncId:=38
def FY:FuncId:=39
def Re:FuncId:=40
def G9:FuncId:=41
def RQ:FuncId:=42
def GZ:FuncId:=43
def Ra:FuncId:=44
def RX:FuncId:=45
def Rp:FuncId:=46
def Q6:FuncId:=47
def UU:FuncId:=48
def n_gj:FuncId:=49
def Q9:FuncId:=57
def HD:FuncId:=68
def HB:FuncId:=69
def HF:FuncId:=70
def Pv:FuncId:=71
def RJ:FuncId:=72
def RY:FuncId:=73
def RR:FuncId:=74
def Hs:FuncId:=75
def n_gp:FuncId:=76
def RV:FuncId:=77
def n_gy:FuncId:=78
def RN:FuncId:=79
def Rg:FuncId:=80
def RL:FuncId:=81
def RW:FuncId:=82
def Pj:FuncId:=83
def FX:FuncId:=84
def Pt:FuncId:=85
def GG:FuncId:=86
def G4:FuncId:=87
def Q1:FuncId:=88
def Qy:FuncId:=89
def Pp:FuncId:=90
def RZ:FuncId:=91
def Rt:FuncId:=108
def RD:FuncId:=109
def RA:FuncId:=110
def Rm:FuncId:=111
def Rk:FuncId:=112
def Xe:FuncId:=113
def EH:FuncId:=114
def Q8:FuncId:=115
def RK:FuncId:=116
def Hm:FuncId:=117
def G8:FuncId:=118
def Rr:FuncId:=119
def Pk:FuncId:=120
def Hr:FuncId:=121
def Rj:FuncId:=122
def n_ij:FuncId:=123
def RM:FuncId:=124
def Rl:FuncId:=129
def Ru:FuncId:=130
def G5:FuncId:=131
def n_gr:FuncId:=132
def n_gu:FuncId:=133
def RU:FuncId:=143
def RG:FuncId:=144
def Qx:FuncId:=145
def UW:FuncId:=146
def Qw:FuncId:=147
def GY:FuncId:=148
def Pq:FuncId:=149
def G6:FuncId:=150
def G7:FuncId:=151
def Ht:FuncId:=152
def Pn:FuncId:=153
def RS:FuncId:=154
def Hn:FuncId:=155
def Rc:FuncId:=156
def Ps:FuncId:=157
def RI:FuncId:=158
def Rq:FuncId:=159
def Q7:FuncId:=160
def RO:FuncId:=161
def Q0:FuncId:=164
def Qz:FuncId:=165
def Q2:FuncId:=170
def Rn:FuncId:=171
def RF:FuncId:=172
def Ro:FuncId:=173
def Pl:FuncId:=174
def Hp:FuncId:=175
def Ho:FuncId:=176
def UR:FuncId:=177
def US:FuncId:=178
def Pr:FuncId:=179
def Ph:FuncId:=180
def GX:FuncId:=181
def Rh:FuncId:=182
def RP:FuncId:=184
def LK:=rg [
oo 3 (.box 6 (.t 0)),oo 4 (.box 5 (.t 1)),oo 6 (.alloc [(.int .i64 0),.AL,.AL,(.int .i64 0),(.int .i64 0),(.int .i64 0)])] [2,3,4,6]
def LJ:=rg [
bs8 7 0 3,btg 8 7] [2,3,4,6,8]
def LI:=rg [
bs5 10 .eql 8 10,btp 9 10] [2,3,4,6,8,9]
def LH:=rg [
bs8 11 2 3,btg 12 11,oo 13 (.Ch 6 (.t 12) (ci 0)),bth 14 6 13,bto 6 6 14] [6]
def LG:=rg [
bs5 16 .eql 8 11,btp 15 16] [2,3,4,6,8,15]
def LF:=rg [
bs8 17 2 3,btg 18 17,bti 19 2,bs5 20 .rem 19 2,btd 21 6 18 20,bth 22 6 21,bto 6 6 22] [6]
def LD:=rg [
bs5 24 .eql 8 13,btp 23 24] [2,3,4,6,23]
def LC:=rg [
bs8 25 2 3,btg 26 25,bs8 27 1 4,btg 28 27,btd 29 6 26 28,bth 30 6 29,bto 6 6 30] [6]
def LB:=rg [
bs8 31 2 3,btg 32 31,bti 33 2,btd 34 6 32 33,bth 35 6 34,bto 6 6 35] [6]
def QB:AA:=(.seq LK (.seq (.seq LJ (.block 0 (.seq LI (.cond (.t 9) (.seq LH .ret) (.seq LG (.cond (.t 15) (.seq LF .ret) (.seq LD (.cond (.t 23) (.seq LC .ret) .skip)))))))) (.seq LB .ret)))
def iD:AN:=⟨3,[.cell 6 (some 6)],QB⟩
def a_cr:=zzy (zzz 8 [LB,LC,LD,LF,LG,LH,LI,LJ,LK])
def Lx:=rg [
bs4 2 0] [0]
def Lw:=rg [
bs4 3 0] [0,3]
def Lv:=rg [
bs4 4 0] [0,3,4]
def bfc:=rg [
bti 5 4,bti 6 0,btf 7 false 6,bs6 8 .lss 5 7] [0,3,4,8]
def bfb:=rg [
bti 11 0,bti 12 4,btd 13 1 11 12,btg 14 13,oo 15 (.bin .shr (.t 14) (.c (.int .u64 6))),oo 16 (.bin .neq (.t 15) (.c (.int .u8 2)))] [0,3,4,16]
def bfa:=rg [
bti 17 3,bs5 18 .add 17 1,btp 3 18] [0,3,4]
def be9:=rg [
bti 9 4,bs5 10 .add 9 1,btp 4 10] [0,3,4]
def bn4:AA:=(.seq (.seq bfc (.cond (.t 8) .skip (.exit 0))) (.seq (.block 1 (.seq bfb (.cond (.t 16) bfa .skip))) be9))
def bp8:=btb bn4.eq_1
def Tc:=rg [
bti 19 3,btp 2 19] [2]
def Y0:AA:=(.seq Lx (.seq Lw (.seq (.seq Lv (.block 0 (.loop bn4))) (.seq Tc .ret))))
def iP:AN:=⟨1,[.t 2],Y0⟩
def a_bw:=zzy (zzz 6 [be9,.ret,.ret,bfc,Lv,Lw,Lx]++[(7,[2]),(4,[0,3,4]),(5,[0,3,4,16])])
def KS:=rg [
bs3 2 false] [0]
def KR:=rg [
bti 3 0,bs5 4 .neq 3 10,bti 5 4,bta 6 5 true 0,og 7 5 true (.bin .neq (.t 6) (ci 11)),btm 8 5 7,bti 9 8,bta 10 9 true 0,og 11 9 true (.bin .neq (.t 10) (ci 12)),btm 12 9 11,bti 13 12,bta 14 13 true 0,og 15 13 true (.bin .neq (.t 14) (ci 13)),btm 16 13 15,btp 2 16] [2]
def Yq:AA:=(.seq KS (.seq KR .ret))
def gS:AN:=⟨1,[.t 2],Yq⟩
def a_d8:=zzy (zzz 1 [KR,KS])
def JT:=rg [
bs3 2 false] [0]
def JS:=rg [
bti 3 0,bs5 4 .eql 3 7,bti 5 4,bta 6 5 false 0,og 7 5 false (.bin .eql (.t 6) (ci 16)),btn 8 5 7,bti 9 8,bta 10 9 false 0,og 11 9 false (.bin .eql (.t 10) (ci 17)),btn 12 9 11,bti 13 12,bta 14 13 false 0,og 15 13 false (.bin .eql (.t 14) (ci 8)),btn 16 13 15,btp 2 16] [2]
def Yd:AA:=(.seq JT (.seq JS .ret))
def gA:AN:=⟨1,[.t 2],Yd⟩
def a_dx:=zzy (zzz 1 [JS,JT])
def JV:=rg [
bs3 4 false] [0,1]
def JU:=rg [
bti 5 0,oo 6 (.bin .geq (.t 5) (ci (-1099511627776))),bti 7 6,bta 8 7 true 0,og 9 7 true (.bin .leq (.t 8) (ci 1099511627776)),btm 10 7 9,bti 11 10,bta 12 11 true 1,og 13 11 true (.bin .geq (.t 12) (ci 0)),btm 14 11 13,bti 15 14,bta 16 15 true 1,og 17 15 true (.bin .lss (.t 16) (ci 1000000000)),btm 18 15 17,btp 4 18] [4]
def Ye:AA:=(.seq JV (.seq JU .ret))
def gB:AN:=⟨2,[.t 4],Ye⟩
def a_dw:=zzy (zzz 1 [JU,JV])
def LV:=rg [
oo 2 (.asg (.c (.str [])))] [0]
def LU:=rg [
bti 4 0,oo 5 (.bin .rem (.t 4) (.c (.int .u64 10))),oo 6 (.bin .add (.c (.int .u64 48)) (.t 5)),oo 7 (.Aj .u8 (.t 6)),oo 8 (.lit false 1 1 (.int .u8 0) [(0,(.t 7))]),oo 9 (.b2s (.t 8)),btp 3 9] [0,3]
def bes:=rg [
bti 10 0,oo 11 (.bin .geq (.t 10) (.c (.int .u64 10)))] [0,3,11]
def ber:=rg [
bti 12 0,oo 13 (.bin .quo (.t 12) (.c (.int .u64 10))),btp 0 13] [0,3]
def beq:=rg [
bti 14 0,oo 15 (.bin .rem (.t 14) (.c (.int .u64 10))),oo 16 (.bin .add (.c (.int .u64 48)) (.t 15)),oo 17 (.Aj .u8 (.t 16)),oo 18 (.lit false 1 1 (.int .u8 0) [(0,(.t 17))]),oo 19 (.b2s (.t 18)),bti 20 3,bs6 21 .add 19 20,btp 3 21] [0,3]
def bnz:AA:=(.seq (.seq bes (.cond (.t 11) .skip (.exit 0))) (.block 1 (.seq ber beq)))
def bp9:=btb bnz.eq_1
def bep:=rg [
bti 22 3,btp 2 22] [2]
def Yw:AA:=(.seq LV (.seq LU (.seq (.block 0 (.loop bnz)) (.seq bep .ret))))
def iG:AN:=⟨1,[.t 2],Yw⟩
def a_cf:=zzy (zzz 4 [beq,ber,bes,LU,LV]++[(5,[2])])
def KA:=rg [
oo 2 (.asg (.c (.int .u64 0)))] [0]
def J9:=rg [
bti 3 0,bs5 4 .lss 3 0] [0,4]
def J8:=rg [
bti 5 0,bs5 6 .add 5 1,oo 7 (.bin .sub (ci 0) (.t 6)),oo 8 (.Aj .u64 (.t 7)),oo 9 (.bin .add (.t 8) (.c (.int .u64 1))),btp 2 9] [2]
def J7:=rg [
bti 10 0,oo 11 (.Aj .u64 (.t 10)),btp 2 11] [2]
def Yn:AA:=(.seq KA (.seq J9 (.cond (.t 4) (.seq J8 .ret) (.seq J7 .ret))))
def gM:AN:=⟨1,[.t 2],Yn⟩
def a_dg:=zzy (zzz 3 [J7,J8,J9,KA])
def Ji:=rg [
bs4 2 0] [0]
def Jh:=rg [
bti 3 0,bs7 4 RG [(.t 3)],bs7 5 RU [(.t 4)],btf 6 true 5,btp 2 6] [2]
def Yi:AA:=(.seq Ji (.seq Jh .ret))
def gG:AN:=⟨1,[.t 2],Yi⟩
def a_dn:=zzy (zzz 1 [Jh,Ji])
def Ow:=rg [
oo 3 (.box 6 (.t 0)),bs3 6 false] [1,2,3]
def Ov:=rg [
bti 7 2,bs5 8 .neq 7 0,bti 9 8,og 10 9 true (.AV 0 (.t 3)),og 11 9 true (.load none (.t 10)),og 12 9 true (.bin .neq (.t 11) (ci 9)),btm 13 9 12] [1,2,3,13]
def Ou:=rg [
bs3 6 false] [6]
def Ot:=rg [
bs8 14 0 3,btg 15 14] [1,2,3,15]
def Oq:=rg [
bs5 17 .eql 15 0,btp 16 17] [1,2,3,15,16]
def Oo:=rg [
bti 18 1,bs5 19 .eql 18 0,bti 20 19,bta 21 20 false 1,og 22 20 false (.bin .eql (.t 21) (ci 1)),btn 23 20 22,btp 6 23] [6]
def On:=rg [
bs5 25 .eql 15 1,btp 24 25] [1,2,3,15,24]
def Om:=rg [
bti 26 1,oo 27 (.bin .geq (.t 26) (ci (-128))),bti 28 27,bta 29 28 true 1,og 30 28 true (.bin .leq (.t 29) (ci 127)),btm 31 28 30,btp 6 31] [6]
def Ol:=rg [
bs5 33 .eql 15 2,btp 32 33] [1,2,3,15,32]
def Oj:=rg [
bti 34 1,oo 35 (.bin .geq (.t 34) (ci (-32768))),bti 36 35,bta 37 36 true 1,og 38 36 true (.bin .leq (.t 37) (ci 32767)),btm 39 36 38,btp 6 39] [6]
def bjc:=rg [
bs5 41 .eql 15 3,btp 40 41] [1,2,3,15,40]
def bjb:=rg [
bs5 42 .eql 15 15,btp 40 42] [1,2,3,15,40]
def bja:=rg [
bti 43 1,oo 44 (.bin .geq (.t 43) (ci (-2147483648))),bti 45 44,bta 46 45 true 1,og 47 45 true (.bin .leq (.t 46) (ci 2147483647)),btm 48 45 47,btp 6 48] [6]
def bi9:=rg [
bs5 50 .eql 15 4,btp 49 50] [1,2,3,15,49]
def bi8:=rg [
bs3 6 true] [6]
def bi7:=rg [
bs5 52 .eql 15 14,btp 51 52] [1,2,3,15,51]
@[go_sem] def agn:Ops:=[
bti 53 1,bs7 54 RD [(.t 53)],bs8 55 4 3,btg 56 55,bs6 57 .leq 54 56,btp 6 57]
def ago:List (Nat×Nat):=[(0,2),(1,2),(0,3),(1,3)]
def bi6:AA:= .region agn ago [6]
@[go_sem] theorem r_ah_16_u:Gu X K s bi6 ago agn [6]:=go_regionU' _ _ _ _
def bi5:=rg [
bs5 59 .eql 15 9,btp 58 59] [1,2,3,15,58]
def bi4:=rg [
bti 60 1,bti 61 2,bs7 62 RA [(.t 60),(.t 61)],btp 6 62] [6]
def bi3:=rg [
bs5 64 .eql 15 13,btp 63 64] [1,3,63]
def bi2:=rg [
bti 65 1,bs5 66 .geq 65 0,bti 67 66,bta 68 67 true 1,og 69 67 true (.AV 2 (.t 3)),og 70 67 true (.load none (.t 69)),og 71 67 true (.len false (.t 70)),og 72 67 true (.bin .lss (.t 68) (.t 71)),btm 73 67 72,btp 6 73] [6]
def bi1:=rg [
bti 74 1,bs5 75 .eql 74 0,btp 6 75] [6]
def ZC:AA:=(.seq Ow (.seq Ov (.cond (.t 13) (.seq Ou .ret) (.seq (.seq Ot (.block 0 (.seq Oq (.cond (.t 16) (.seq Oo .ret) (.seq On (.cond (.t 24) (.seq Om .ret) (.seq Ol (.cond (.t 32) (.seq Oj .ret) (.seq (.seq bjc (.cond (.t 40) .skip bjb)) (.cond (.t 40) (.seq bja .ret) (.seq bi9 (.cond (.t 49) (.seq bi8 .ret) (.seq bi7 (.cond (.t 51) (.seq bi6 .ret) (.seq bi5 (.cond (.t 58) (.seq bi4 .ret) (.seq bi3 (.cond (.t 63) (.seq bi2 .ret) .skip)))))))))))))))))) (.seq bi1 .ret)))))
def jV:AN:=⟨3,[.t 6],ZC⟩
def a_ah:=zzy (zzz 21 [bi1,bi2,bi3,bi4,bi5,.ret,bi7,bi8,bi9,bja,bjb,bjc,Oj,Ol,Om,On,Oo,Oq,Ot,Ou,Ov,Ow]++[(16,[6])])
def PI:=rg [
oo 2 (.box 6 (.t 0)),oo 3 (.box 5 (.t 1)),bs4 4 0] [2,3]
def PH:=rg [
bs8 8 0 3,btg 9 8] [2,3,9]
def PG:=rg [
bs8 10 1 3,btg 11 10,bs5 12 .neq 11 0,bti 13 12,og 14 13 false (.AV 2 (.t 3)),og 15 13 false (.load none (.t 14)),og 16 13 false (.bin .neq (.t 15) (ci 0)),btn 17 13 16,bti 18 17,og 19 18 false (.AV 3 (.t 3)),og 20 18 false (.load none (.t 19)),og 21 18 false (.len false (.t 20)),og 22 18 false (.bin .gtr (.t 21) (ci 0)),btn 23 18 22,bti 24 23,og 25 24 false (.AV 4 (.t 3)),og 26 24 false (.load none (.t 25)),og 27 24 false (.len false (.t 26)),og 28 24 false (.bin .gtr (.t 27) (ci 0)),btn 29 24 28] [29]
def PF:=rg [
bs4 4 1] [4]
def PE:=rg [
bs4 4 0] [4]
def PD:=rg [
bth 30 6 2,bs8 31 1 3,btg 32 31,bs8 33 2 3,btg 34 33,bs7 35 Pv [(.t 30),(.t 32),(.t 34)],btl 36 35,bti 37 36,og 38 37 false (.AV 3 (.t 3)),og 39 37 false (.load none (.t 38)),og 40 37 false (.len false (.t 39)),og 41 37 false (.bin .gtr (.t 40) (ci 0)),bta 42 37 false 41,og 43 42 true (.AV 0 (.t 2)),og 44 42 true (.load none (.t 43)),og 45 42 true (.call false Q9 [(.t 44)]),og 46 42 true (.un .not (.t 45)),og 47 37 false (.pick (.t 42) (.t 46) (.c (.bool false))),btn 48 37 47,bti 49 48,og 50 49 false (.AV 4 (.t 3)),og 51 49 false (.load none (.t 50)),og 52 49 false (.len false (.t 51)),og 53 49 false (.bin .gtr (.t 52) (ci 0)),bta 54 49 false 53,og 55 54 true (.AV 0 (.t 2)),og 56 54 true (.load none (.t 55)),og 57 54 true (.call false RJ [(.t 56)]),og 58 49 false (.pick (.t 54) (.t 57) (.c (.bool false))),btn 59 49 58] [2,3,59]
def PC:=rg [
bs4 4 1] [4]
@[go_sem] def a8f:Ops:=[
bs8 60 3 3,btg 61 60,btf 62 false 61,bs5 63 .gtr 62 4096,bti 64 63,og 65 64 false (.AV 0 (.t 2)),og 66 64 false (.load none (.t 65)),og 67 64 false (.bin .eql (.t 66) (ci 16)),bta 68 64 false 67,og 69 68 false (.AV 0 (.t 2)),og 70 68 false (.load none (.t 69)),og 71 68 false (.bin .eql (.t 70) (ci 17)),og 72 64 false (.pick (.t 68) (.c (.bool true)) (.t 71)),bta 73 64 false 72,og 74 73 true (.AV 3 (.t 3)),og 75 73 true (.load none (.t 74)),og 76 73 true (.call false RY [(.t 75)]),og 77 73 true (.AV 3 (.t 2)),og 78 73 true (.load none (.t 77)),og 79 73 true (.bin .gtr (.t 76) (.t 78)),og 80 64 false (.pick (.t 73) (.t 79) (.c (.bool false))),btn 81 64 80]
def a8g:List (Nat×Nat):=[(14,17),(15,17),(16,17),(14,18),(15,18),(16,18)]
def T0:AA:= .region a8f a8g [2,3,81]
@[go_sem] theorem r_ae_7_u:Gu X K s T0 a8g a8f [2,3,81]:=go_regionU' _ _ _ _
def PB:=rg [
bs4 4 4] [4]
def PA:=rg [
bs8 82 4 3,btg 83 82,btf 84 false 83,btp 5 84] [2,3,5]
def bj6:=rg [
bs8 85 0 2,btg 86 85] [2,3,5,86]
def bj5:=rg [
bs5 88 .eql 86 10,btp 87 88] [2,3,5,86,87]
def bj4:=rg [
bti 89 5,bs5 90 .gtr 89 16384] [2,3,5,90]
def bj3:=rg [
bs4 4 4] [4]
def bj2:=rg [
bs5 92 .eql 86 11,btp 91 92] [2,3,5,86,91]
def bj1:=rg [
bti 93 5,bs5 94 .rem 93 2,bs5 95 .neq 94 0] [2,3,5,95]
def bj0:=rg [
bs4 4 1] [4]
def bjz:=rg [
bti 96 5,bs5 97 .gtr 96 32768] [2,3,5,97]
def bjy:=rg [
bs4 4 4] [4]
def bjx:=rg [
bs5 99 .eql 86 12,btp 98 99] [2,3,5,86,98]
def bjw:=rg [
bti 100 5,bs8 101 2 2,btg 102 101,btf 103 false 102,bs6 104 .neq 100 103] [2,3,5,104]
def bjv:=rg [
bs4 4 1] [4]
def bju:=rg [
bs5 106 .eql 86 13,btp 105 106] [2,3,5,105]
def bjt:=rg [
bti 107 5,bs5 108 .neq 107 1] [2,3,5,108]
def bjs:=rg [
bs4 4 1] [4]
def bjr:=rg [
bs4 6 0] [2,3,5,6]
def apl:=rg [
bti 109 6,bti 110 5,bs6 111 .lss 109 110] [2,3,5,6,111]
def apk:=rg [
bs8 114 0 2,btg 115 114,bs5 116 .eql 115 11,bti 117 116,bta 118 117 true 6,og 119 117 true (.bin .rem (.t 118) (ci 2)),og 120 117 true (.bin .eql (.t 119) (ci 0)),btm 121 117 120,bti 122 121,og 123 122 true (.AV 4 (.t 3)),og 124 122 true (.load none (.t 123)),bta 125 122 true 6,og 126 122 true (.Ch 5 (.t 124) (.t 125)),og 127 122 true (.AV 0 (.t 126)),og 128 122 true (.load none (.t 127)),btm 129 122 128] [2,3,5,6,129]
def apj:=rg [
bs4 4 1] [4]
@[go_sem] def aia:Ops:=[
bth 130 6 2,bth 131 5 3,bti 132 6,bs7 133 RR [(.t 130),(.t 131),(.t 132)],bs8 134 4 3,btg 135 134,bti 136 6,btd 137 5 135 136,bth 138 5 137,bs7 139 Hv [(.t 133),(.t 138)],btp 7 139]
def aib:List (Nat×Nat):=[(0,1),(0,2),(1,2),(0,4),(1,4),(2,4),(3,4),(0,5),(1,5),(2,5),(3,5),(0,6),(1,6),(2,6),(3,6),(4,6),(5,6),(0,7),(1,7),(2,7),(3,7),(0,8),(1,8),(2,8),(3,8)]
def api:AA:= .region aia aib [2,3,5,6,7]
@[go_sem] theorem r_ae_29_u:Gu X K s api aib aia [2,3,5,6,7]:=go_regionU' _ _ _ _
def aph:=rg [
bti 140 7,bs5 141 .neq 140 0] [2,3,5,6,7,141]
def apg:=rg [
bti 142 7,btp 4 142] [4]
def apf:=rg [
bti 112 6,bs5 113 .add 112 1,btp 6 113] [2,3,5,6]
def aru:AA:=(.seq (.seq apl (.cond (.t 111) .skip (.exit 1))) (.seq (.block 2 (.seq (.seq apk (.cond (.t 129) (.seq apj .ret) .skip)) (.seq api (.seq aph (.cond (.t 141) (.seq apg .ret) .skip))))) apf))
def bqa:=btb aru.eq_1
def ape:=rg [
bs4 4 0] [4]
def SH:AA:=(.seq PI (.seq PH (.cond (.t 9) (.seq (.seq PG (.cond (.t 29) (.seq PF .ret) .skip)) (.seq PE .ret)) (.seq PD (.cond (.t 59) (.seq PC .ret) (.seq T0 (.cond (.t 81) (.seq PB .ret) (.seq PA (.seq (.seq bj6 (.block 0 (.seq bj5 (.cond (.t 87) (.seq bj4 (.cond (.t 90) (.seq bj3 .ret) .skip)) (.seq bj2 (.cond (.t 91) (.seq (.seq bj1 (.cond (.t 95) (.seq bj0 .ret) .skip)) (.seq bjz (.cond (.t 97) (.seq bjy .ret) .skip))) (.seq bjx (.cond (.t 98) (.seq bjw (.cond (.t 104) (.seq bjv .ret) .skip)) (.seq bju (.cond (.t 105) (.seq bjt (.cond (.t 108) (.seq bjs .ret) .skip)) .skip)))))))))) (.seq (.seq bjr (.block 1 (.loop aru))) (.seq ape .ret)))))))))))
def jY:AN:=⟨2,[.t 4],SH⟩
def a_ae:=zzy (zzz 26 [apl,bjr,bjs,bjt,bju,bjv,bjw,bjx,bjy,bjz,bj0,bj1,bj2,bj3,bj4,bj5,bj6,PA,PB,.ret,PC,PD,PE,PF,PG,PH,PI]++[(33,[4]),(27,[2,3,5,6]),(32,[4]),(31,[2,3,5,6,7,141]),(30,[2,3,5,6,7]),(29,[4]),(28,[2,3,5,6,129]),(7,[2,3,81])])
def Pc:=rg [
oo 1 (.box 6 (.t 0)),bs4 2 0] [1]
def Pb:=rg [
bs8 8 0 1,btg 9 8,bs5 10 .eql 9 5,bti 11 10,og 12 11 false (.AV 0 (.t 1)),og 13 11 false (.load none (.t 12)),og 14 11 false (.bin .eql (.t 13) (ci 6)),btn 15 11 14] [1,15]
def Pa:=rg [
bs4 2 5] [2]
def PZ:=rg [
bs8 16 0 1,btg 17 16,bs5 18 .lss 17 0,bti 19 18,og 20 19 false (.AV 0 (.t 1)),og 21 19 false (.load none (.t 20)),og 22 19 false (.bin .gtr (.t 21) (ci 17)),btn 23 19 22] [1,23]
def PY:=rg [
bs4 2 1] [2]
def PX:=rg [
bs8 24 2 1,btg 25 24,btf 26 false 25,btp 3 26] [1,3]
def PW:=rg [
bti 27 3,bs5 28 .eql 27 0,btp 4 28] [1,3,4]
def PV:=rg [
bs8 29 0 1,btg 30 29] [1,3,4,30]
def PU:=rg [
bs5 32 .eql 30 10,btp 31 32] [1,3,4,30,31]
def PT:=rg [
bti 33 3,bs5 34 .eql 33 1,btp 4 34] [1,4]
def bku:=rg [
bs5 36 .eql 30 11,btp 35 36] [1,3,4,30,35]
def bkt:=rg [
bti 37 3,bs5 38 .eql 37 2,btp 4 38] [1,4]
def bks:=rg [
bs5 40 .eql 30 12,btp 39 40] [1,3,4,30,39]
def bkr:=rg [
bti 41 3,bs8 42 1 1,btg 43 42,btf 44 false 43,bs6 45 .eql 41 44,btp 4 45] [1,4]
def bkq:=rg [
bs5 47 .eql 30 13,btp 46 47] [1,3,4,46]
def bkp:=rg [
bti 48 3,bs5 49 .geq 48 1,bti 50 49,bta 51 50 true 3,og 52 50 true (.bin .leq (.t 51) (ci 255)),btm 53 50 52,btp 4 53] [1,4]
def bko:=rg [
bti 54 4,btl 55 54,bti 56 55,og 57 56 false (.AV 0 (.t 1)),og 58 56 false (.load none (.t 57)),og 59 56 false (.bin .neq (.t 58) (ci 12)),bta 60 56 false 59,og 61 60 true (.AV 1 (.t 1)),og 62 60 true (.load none (.t 61)),og 63 60 true (.len false (.t 62)),og 64 60 true (.bin .gtr (.t 63) (ci 0)),og 65 56 false (.pick (.t 60) (.t 64) (.c (.bool false))),btn 66 56 65] [1,66]
def bkn:=rg [
bs4 2 1] [2]
def bkm:=rg [
bs4 5 0] [1,5]
def ap2:=rg [
bti 67 5,bs8 68 1 1,btg 69 68,btf 70 false 69,bs6 71 .lss 67 70] [1,5,71]
def ap1:=rg [
bs8 74 1 1,btg 75 74,bti 76 5,btd 77 1 75 76,btg 78 77,oo 79 (.bin .eql (.t 78) (.c (.str []))),bti 80 79,og 81 80 false (.AV 1 (.t 1)),og 82 80 false (.load none (.t 81)),bta 83 80 false 5,og 84 80 false (.Ch 1 (.t 82) (.t 83)),og 85 80 false (.load none (.t 84)),og 86 80 false (.len true (.t 85)),og 87 80 false (.bin .gtr (.t 86) (ci 100)),btn 88 80 87] [1,5,88]
def ap0:=rg [
bs4 2 1] [2]
def apz:=rg [
bs4 6 0] [1,5,6]
def apy:=rg [
bti 89 6,bti 90 5,bs6 91 .lss 89 90] [1,5,6,91]
@[go_sem] def ajl:Ops:=[
bs8 94 1 1,btg 95 94,bti 96 6,btd 97 1 95 96,btg 98 97,bs8 99 1 1,btg 100 99,bti 101 5,btd 102 1 100 101,btg 103 102,bs6 104 .eql 98 103]
def ajm:List (Nat×Nat):=[(0,2),(1,2),(0,5),(1,5),(2,5),(3,5),(4,5),(0,6),(1,6),(2,6),(3,6),(4,6),(0,7),(1,7),(2,7),(3,7),(4,7),(5,7),(6,7),(0,8),(1,8),(2,8),(3,8),(4,8),(0,9),(1,9),(2,9),(3,9),(4,9)]
def apx:AA:= .region ajl ajm [1,5,6,104]
@[go_sem] theorem r_ab_24_u:Gu X K s apx ajm ajl [1,5,6,104]:=go_regionU' _ _ _ _
def apw:=rg [
bs4 2 1] [2]
def apv:=rg [
bti 92 6,bs5 93 .add 92 1,btp 6 93] [1,5,6]
def aan:AA:=(.seq (.seq apy (.cond (.t 91) .skip (.exit 3))) (.seq (.block 4 (.seq apx (.cond (.t 104) (.seq apw .ret) .skip))) apv))
def bqb:=btb aan.eq_1
def apu:=rg [
bti 72 5,bs5 73 .add 72 1,btp 5 73] [1,5]
def arv:AA:=(.seq (.seq ap2 (.cond (.t 71) .skip (.exit 1))) (.seq (.block 2 (.seq (.seq ap1 (.cond (.t 88) (.seq ap0 .ret) .skip)) (.seq apz (.block 3 (.loop aan))))) apu))
def bqc:=btb arv.eq_1
def bkl:=rg [
bs8 105 0 1,btg 106 105,bs5 107 .eql 106 16,bti 108 107,og 109 108 false (.AV 0 (.t 1)),og 110 108 false (.load none (.t 109)),og 111 108 false (.bin .eql (.t 110) (ci 17)),btn 112 108 111,btp 7 112] [1,7]
def bkk:=rg [
bti 113 7,bti 114 113,og 115 114 true (.AV 3 (.t 1)),og 116 114 true (.load none (.t 115)),og 117 114 true (.bin .lss (.t 116) (ci 1)),bta 118 114 true 117,og 119 118 false (.AV 3 (.t 1)),og 120 118 false (.load none (.t 119)),og 121 118 false (.bin .gtr (.t 120) (ci 4096)),og 122 114 true (.pick (.t 118) (.c (.bool true)) (.t 121)),btm 123 114 122,bti 124 123,bta 125 124 false 7,og 126 124 false (.un .not (.t 125)),bta 127 124 false 126,og 128 127 true (.AV 3 (.t 1)),og 129 127 true (.load none (.t 128)),og 130 127 true (.bin .neq (.t 129) (ci 0)),og 131 124 false (.pick (.t 127) (.t 130) (.c (.bool false))),btn 132 124 131] [1,132]
def bkj:=rg [
bs4 2 1] [2]
def bki:=rg [
bs8 133 0 1,btg 134 133,bs5 135 .eql 134 14] [1,135]
def bkh:=rg [
bs8 136 4 1,btg 137 136,bs5 138 .lss 137 1,bti 139 138,og 140 139 false (.AV 4 (.t 1)),og 141 139 false (.load none (.t 140)),og 142 139 false (.bin .gtr (.t 141) (ci 18)),btn 143 139 142,bti 144 143,og 145 144 false (.AV 5 (.t 1)),og 146 144 false (.load none (.t 145)),og 147 144 false (.bin .lss (.t 146) (ci 0)),btn 148 144 147,bti 149 148,og 150 149 false (.AV 5 (.t 1)),og 151 149 false (.load none (.t 150)),og 152 149 false (.AV 4 (.t 1)),og 153 149 false (.load none (.t 152)),og 154 149 false (.bin .gtr (.t 151) (.t 153)),btn 155 149 154] [155]
def bkg:=rg [
bs4 2 1] [2]
def bkf:=rg [
bs8 156 4 1,btg 157 156,bs5 158 .neq 157 0,bti 159 158,og 160 159 false (.AV 5 (.t 1)),og 161 159 false (.load none (.t 160)),og 162 159 false (.bin .neq (.t 161) (ci 0)),btn 163 159 162] [163]
def bke:=rg [
bs4 2 1] [2]
def bkd:=rg [
bs4 2 0] [2]
def D4:AA:=(.seq Pc (.seq Pb (.cond (.t 15) (.seq Pa .ret) (.seq PZ (.cond (.t 23) (.seq PY .ret) (.seq PX (.seq PW (.seq (.seq PV (.block 0 (.seq PU (.cond (.t 31) PT (.seq bku (.cond (.t 35) bkt (.seq bks (.cond (.t 39) bkr (.seq bkq (.cond (.t 46) bkp .skip)))))))))) (.seq bko (.cond (.t 66) (.seq bkn .ret) (.seq (.seq bkm (.block 1 (.loop arv))) (.seq bkl (.seq bkk (.cond (.t 132) (.seq bkj .ret) (.seq (.seq bki (.cond (.t 135) (.seq bkh (.cond (.t 155) (.seq bkg .ret) .skip)) (.seq bkf (.cond (.t 163) (.seq bke .ret) .skip)))) (.seq bkd .ret))))))))))))))))
def kA:AN:=⟨1,[.t 2],D4⟩
def a_ab:=zzy (zzz 35 [bkg,.ret,.ret,.ret,.ret,.ret,.ret,.ret,.ret,.ret,.ret,.ret,.ret,.ret,.ret,.ret,ap2,bkm,bkn,bko,bkp,bkq,bkr,bks,bkt,bku,PT,PU,PV,PW,PX,PY,PZ,Pa,Pb,Pc]++[(36,[2]),(33,[2]),(32,[155]),(34,[163]),(31,[1,135]),(30,[2]),(29,[1,132]),(28,[1,7]),(20,[1,5]),(25,[1,5,6]),(27,[2]),(26,[1,5,6,104]),(24,[1,5,6,91]),(23,[1,5,6]),(22,[2]),(21,[1,5,88])])
def N9:=rg [
oo 3 (.box 6 (.t 0)),bs4 6 0,bs4 7 0] [1,2,3]
def N8:=rg [
bti 12 1,bs5 13 .gtr 12 16,bti 14 13,bta 15 14 false 2,og 16 14 false (.bin .geq (.t 15) (ci 100)),btn 17 14 16] [1,2,3,17]
def N7:=rg [
bti 18 2,btp 6 18,bs4 7 4] [6,7]
def N6:=rg [
bth 19 6 3,bs7 20 Rt [(.t 19)],btp 8 20] [1,2,3,8]
def N5:=rg [
bti 21 8,bs5 22 .neq 21 0] [1,2,3,8,22]
def N4:=rg [
bti 23 2,bti 24 8,btp 6 23,btp 7 24] [6,7]
def N3:=rg [
bti 25 2,bs5 26 .add 25 1,btp 2 26] [1,2,3]
def N1:=rg [
bs4 9 0] [1,2,3,9]
def bhz:=rg [
bti 27 9,bs8 28 2 3,btg 29 28,btf 30 false 29,bs6 31 .lss 27 30] [1,2,3,9,31]
def bhy:=rg [
bs8 35 2 3,btg 36 35,bti 37 9,btd 38 6 36 37,bth 39 6 38,bti 40 1,bs5 41 .add 40 1,bti 42 2,bs7 43 HF [(.t 39),(.t 41),(.t 42)],bti 34 43,btq 44 34 0,btq 45 34 1,btp 10 44,btp 11 45] [1,3,9,10,11]
def an6:=rg [
bti 46 11,bs5 47 .neq 46 0] [1,3,9,10,11,47]
def an5:=rg [
bti 48 10,bti 49 11,btp 6 48,btp 7 49] [6,7]
def an4:=rg [
bti 50 10,btp 2 50] [1,2,3,9]
def an3:=rg [
bti 32 9,bs5 33 .add 32 1,btp 9 33] [1,2,3,9]
def arq:AA:=(.seq (.seq bhz (.cond (.t 31) .skip (.exit 0))) (.seq (.block 1 (.seq bhy (.seq (.seq an6 (.cond (.t 47) (.seq an5 .ret) .skip)) an4))) an3))
def bqd:=btb arq.eq_1
def an2:=rg [
bti 51 2,btp 6 51,bs4 7 0] [6,7]
def QD:AA:=(.seq N9 (.seq N8 (.cond (.t 17) (.seq N7 .ret) (.seq N6 (.seq N5 (.cond (.t 22) (.seq N4 .ret) (.seq N3 (.seq (.seq N1 (.block 0 (.loop arq))) (.seq an2 .ret)))))))))
def jO:AN:=⟨3,[.t 6,.t 7],QD⟩
def a_aq:=zzy (zzz 13 [an3,.ret,.ret,.ret,.ret,bhz,N1,N3,N4,N5,N6,N7,N8,N9]++[(14,[6,7]),(9,[1,2,3,9]),(12,[6,7]),(11,[1,3,9,10,11,47]),(10,[1,3,9,10,11])])
def Jr:=rg [
oo 1 (.box 6 (.t 0)),bs4 2 0] [1]
def Jq:=rg [
bth 6 6 1,bs7 7 HF [(.t 6),(ci 1),(ci 0)],bti 5 7,btq 8 5 0,btq 9 5 1,btp 3 8,btp 4 9] [4]
def Jp:=rg [
bti 10 4,btp 2 10] [2]
def Yl:AA:=(.seq Jr (.seq Jq (.seq Jp .ret)))
def gJ:AN:=⟨1,[.t 2],Yl⟩
def a_dj:=zzy (zzz 2 [Jp,Jq,Jr])
def NK:=rg [
oo 1 (.box 6 (.t 0)),bs4 2 0] [1]
def NJ:=rg [
bs8 4 0 1,btg 5 4,bs5 6 .neq 5 0,bti 7 6,og 8 7 true (.AV 0 (.t 1)),og 9 7 true (.load none (.t 8)),og 10 7 true (.bin .neq (.t 9) (ci 4)),btm 11 7 10,btp 3 11] [1,3]
def NI:=rg [
bs4 2 7] [2]
def NH:=rg [
bs8 13 1 1,btg 14 13,bs5 15 .lss 14 64,bti 16 15,og 17 16 false (.AV 1 (.t 1)),og 18 16 false (.load none (.t 17)),og 19 16 false (.bin .gtr (.t 18) (ci 65536)),btn 20 16 19,bti 21 20,og 22 21 false (.AV 2 (.t 1)),og 23 21 false (.load none (.t 22)),og 24 21 false (.bin .lss (.t 23) (ci 1)),btn 25 21 24,bti 26 25,og 27 26 false (.AV 2 (.t 1)),og 28 26 false (.load none (.t 27)),og 29 26 false (.bin .gtr (.t 28) (ci 2)),btn 30 26 29,bti 31 30,og 32 31 false (.AV 3 (.t 1)),og 33 31 false (.load none (.t 32)),og 34 31 false (.bin .lss (.t 33) (ci 0)),btn 35 31 34,bti 36 35,og 37 36 false (.AV 3 (.t 1)),og 38 36 false (.load none (.t 37)),og 39 36 false (.bin .gtr (.t 38) (ci 100)),btn 40 36 39,bti 41 40,og 42 41 false (.AV 4 (.t 1)),og 43 41 false (.load none (.t 42)),og 44 41 false (.bin .lss (.t 43) (ci 1)),btn 45 41 44,bti 46 45,og 47 46 false (.AV 4 (.t 1)),og 48 46 false (.load none (.t 47)),og 49 46 false (.bin .gtr (.t 48) (ci 4096)),btn 50 46 49,bti 51 50,og 52 51 false (.AV 5 (.t 1)),og 53 51 false (.load none (.t 52)),og 54 51 false (.bin .lss (.t 53) (ci 0)),btn 55 51 54,bti 56 55,og 57 56 false (.AV 5 (.t 1)),og 58 56 false (.load none (.t 57)),og 59 56 false (.bin .gtr (.t 58) (ci 4096)),btn 60 56 59,btp 12 60] [12]
def NG:=rg [
bs4 2 1] [2]
def NF:=rg [
bs4 2 0] [2]
def E6:AA:=(.seq NK (.seq (.block 0 (.seq NJ (.cond (.t 3) (.seq NI .ret) (.seq NH (.cond (.t 12) (.seq NG .ret) .skip))))) (.seq NF .ret)))
def jG:AN:=⟨1,[.t 2],E6⟩
def a_b7:=zzy (zzz 5 [NF,NG,NH,NI,NJ,NK])
def It:=rg [
oo 1 (.box 6 (.t 0)),oo 2 (.alloc [(.int .i64 0),(.int .i64 0),(.int .i64 0),(.int .i64 0),(.int .i64 0),(.int .i64 0)])] [1,2]
def Is:=rg [
bs8 3 0 1,btg 4 3,bs8 5 1 1,btg 6 5,bs8 7 2 1,btg 8 7,bs8 9 3 1,btg 10 9,bs8 11 4 1,btg 12 11,bs8 13 5 1,btg 14 13,oo 15 (.build [(.int .i64 0),(.int .i64 0),(.int .i64 0),(.int .i64 0),(.int .i64 0),(.int .i64 0)] [(0,1,(.t 4)),(1,1,(.t 6)),(2,1,(.t 8)),(3,1,(.t 10)),(4,1,(.t 12)),(5,1,(.t 14))]),bto 6 2 15] [2]
def YZ:AA:=(.seq It (.seq Is .ret))
def fQ:AN:=⟨1,[.cell 2 (some 6)],YZ⟩
def a_ep:=zzy (zzz 1 [Is,It])
def Mn:=rg [
oo 2 (.box 5 (.t 0)),bs4 4 0] [1,2]
def Mm:=rg [
bti 7 1,bs5 8 .gtr 7 20,bti 9 8,og 10 9 false (.AV 4 (.t 2)),og 11 9 false (.load none (.t 10)),og 12 9 false (.len false (.t 11)),og 13 9 false (.bin .gtr (.t 12) (ci 400)),btn 14 9 13,bti 15 14,og 16 15 false (.AV 3 (.t 2)),og 17 15 false (.load none (.t 16)),og 18 15 false (.len false (.t 17)),og 19 15 false (.bin .gtr (.t 18) (ci 5000)),btn 20 15 19] [1,2,20]
def Ml:=rg [
bs4 4 1000] [4]
def Mk:=rg [
bs8 21 3 2,btg 22 21,btf 23 false 22,bs5 24 .quo 23 50,oo 25 (.bin .add (ci 1) (.t 24)),btp 5 25] [1,2,5]
def Mj:=rg [
bs4 6 0] [1,2,5,6]
def bf8:=rg [
bti 26 6,bs8 27 4 2,btg 28 27,btf 29 false 28,bs6 30 .lss 26 29] [1,2,5,6,30]
def bf7:=rg [
bti 33 5,bs8 34 4 2,btg 35 34,bti 36 6,btd 37 5 35 36,bth 38 5 37,bti 39 1,bs5 40 .add 39 1,bs7 41 HB [(.t 38),(.t 40)],bs6 42 .add 33 41,btp 5 42] [1,2,5,6]
def bf6:=rg [
bti 43 5,bs5 44 .gtr 43 1000] [1,2,5,6,44]
def bf5:=rg [
bs4 4 1000] [4]
def bf4:=rg [
bti 31 6,bs5 32 .add 31 1,btp 6 32] [1,2,5,6]
def ari:AA:=(.seq (.seq bf8 (.cond (.t 30) .skip (.exit 0))) (.seq (.block 1 (.seq bf7 (.seq bf6 (.cond (.t 44) (.seq bf5 .ret) .skip)))) bf4))
def bqe:=btb ari.eq_1
def ams:=rg [
bti 45 5,btp 4 45] [4]
def QC:AA:=(.seq Mn (.seq Mm (.cond (.t 20) (.seq Ml .ret) (.seq Mk (.seq (.seq Mj (.block 0 (.loop ari))) (.seq ams .ret))))))
def iZ:AN:=⟨2,[.t 4],QC⟩
def a_bh:=zzy (zzz 6 [bf7,bf8,Mj,Mk,Ml,Mm,Mn]++[(10,[4]),(9,[4]),(8,[1,2,5,6,44]),(7,[1,2,5,6])])
def Jk:=rg [
oo 1 (.box 5 (.t 0)),bs4 2 0] [1]
def Jj:=rg [
bth 3 5 1,bs7 4 HB [(.t 3),(ci 1)],btp 2 4] [2]
def Yj:AA:=(.seq Jk (.seq Jj .ret))
def gH:AN:=⟨1,[.t 2],Yj⟩
def a_dm:=zzy (zzz 1 [Jj,Jk])
def N0:=rg [
oo 2 (.box 6 (.t 0)),bs4 4 0] [1,2]
def Nz:=rg [
bti 8 1,bs5 9 .gtr 8 20,bti 10 9,og 11 10 false (.AV 2 (.t 2)),og 12 10 false (.load none (.t 11)),og 13 10 false (.len false (.t 12)),og 14 10 false (.bin .gtr (.t 13) (ci 300)),btn 15 10 14,bti 16 15,og 17 16 false (.AV 1 (.t 2)),og 18 16 false (.load none (.t 17)),og 19 16 false (.len false (.t 18)),og 20 16 false (.bin .gtr (.t 19) (ci 300)),btn 21 16 20] [1,2,21]
def Ny:=rg [
bs4 4 1000] [4]
def Nx:=rg [
bs4 5 1] [1,2,5]
def Nw:=rg [
bs4 6 0] [1,2,5,6]
def bhw:=rg [
bti 22 6,bs8 23 1 2,btg 24 23,btf 25 false 24,bs6 26 .lss 22 25] [1,2,5,6,26]
def bhv:=rg [
bs8 29 1 2,btg 30 29,bti 31 6,btd 32 1 30 31,btg 33 32,btf 34 true 33,bs5 35 .gtr 34 200] [1,2,5,6,35]
def bhu:=rg [
bs4 4 1000] [4]
def bht:=rg [
bti 27 6,bs5 28 .add 27 1,btp 6 28] [1,2,5,6]
def boa:AA:=(.seq (.seq bhw (.cond (.t 26) .skip (.exit 0))) (.seq (.block 1 (.seq bhv (.cond (.t 35) (.seq bhu .ret) .skip))) bht))
def bqf:=btb boa.eq_1
def bhx:=rg [
bs4 7 0] [1,2,5,7]
def an1:=rg [
bti 36 7,bs8 37 2 2,btg 38 37,btf 39 false 38,bs6 40 .lss 36 39] [1,2,5,7,40]
def an0:=rg [
bti 43 5,bs8 44 2 2,btg 45 44,bti 46 7,btd 47 6 45 46,bth 48 6 47,bti 49 1,bs5 50 .add 49 1,bs7 51 HD [(.t 48),(.t 50)],bs6 52 .add 43 51,btp 5 52] [1,2,5,7]
def anz:=rg [
bti 53 5,bs5 54 .gtr 53 1000] [1,2,5,7,54]
def anx:=rg [
bs4 4 1000] [4]
def anw:=rg [
bti 41 7,bs5 42 .add 41 1,btp 7 42] [1,2,5,7]
def arp:AA:=(.seq (.seq an1 (.cond (.t 40) .skip (.exit 2))) (.seq (.block 3 (.seq an0 (.seq anz (.cond (.t 54) (.seq anx .ret) .skip)))) anw))
def bqg:=btb arp.eq_1
def anv:=rg [
bti 55 5,btp 4 55] [4]
def ID:AA:=(.seq N0 (.seq Nz (.cond (.t 21) (.seq Ny .ret) (.seq Nx (.seq (.seq Nw (.block 0 (.loop boa))) (.seq (.seq bhx (.block 2 (.loop arp))) (.seq anv .ret)))))))
def jN:AN:=⟨2,[.t 4],ID⟩
def a_au:=zzy (zzz 14 [anx,anz,an0,.ret,.ret,.ret,.ret,.ret,.ret,bhw,Nw,Nx,Ny,Nz,N0]++[(15,[4]),(11,[1,2,5,7]),(10,[1,2,5,7,40]),(9,[1,2,5,7]),(6,[1,2,5,6]),(8,[4]),(7,[1,2,5,6,35])])
def Jd:=rg [
oo 1 (.box 6 (.t 0)),bs3 2 false] [1]
def Jc:=rg [
bth 4 6 1,bs7 5 HD [(.t 4),(ci 1)],btp 3 5] [3]
def Jb:=rg [
bti 6 3,bs5 7 .leq 6 150,btp 2 7] [2]
def Yg:AA:=(.seq Jd (.seq Jc (.seq Jb .ret)))
def gE:AN:=⟨1,[.t 2],Yg⟩
def a_dr:=zzy (zzz 2 [Jb,Jc,Jd])
def MY:=rg [
oo 2 (.box 6 (.t 0)),bs3 4 false] [1,2]
def MX:=rg [
bth 7 6 2,bs7 8 RB [(.t 7)],btl 9 8,bti 10 9,bta 11 10 false 1,og 12 10 false (.len false (.t 11)),og 13 10 false (.bin .gtr (.t 12) (ci 200)),btn 14 10 13] [1,14]
def MW:=rg [
bs3 4 false] [4]
def MV:=rg [
bs4 5 0] [1,5]
def MU:=rg [
bs4 6 0] [1,5,6]
def bf3:=rg [
bti 15 6,bti 16 1,btf 17 false 16,bs6 18 .lss 15 17] [1,5,6,18]
def bf2:=rg [
bti 21 5,bti 22 1,bti 23 6,btd 24 5 22 23,bth 25 5 24,bs7 26 RE [(.t 25)],bs6 27 .add 21 26,btp 5 27] [1,5,6]
def bf1:=rg [
bti 28 5,bs5 29 .gtr 28 1000] [1,5,6,29]
def bf0:=rg [
bs3 4 false] [4]
def bfz:=rg [
bti 19 6,bs5 20 .add 19 1,btp 6 20] [1,5,6]
def arh:AA:=(.seq (.seq bf3 (.cond (.t 18) .skip (.exit 0))) (.seq (.block 1 (.seq bf2 (.seq bf1 (.cond (.t 29) (.seq bf0 .ret) .skip)))) bfz))
def bqh:=btb arh.eq_1
def amr:=rg [
bs3 4 true] [4]
def SC:AA:=(.seq MY (.seq MX (.cond (.t 14) (.seq MW .ret) (.seq MV (.seq (.seq MU (.block 0 (.loop arh))) (.seq amr .ret))))))
def iW:AN:=⟨2,[.t 4],SC⟩
def a_bm:=zzy (zzz 6 [bf2,bf3,MU,MV,MW,MX,MY]++[(10,[4]),(9,[4]),(8,[1,5,6,29]),(7,[1,5,6])])
def JA:=rg [
bs4 4 0] [0,1]
def I9:=rg [
bti 5 0,bti 6 1,bs7 7 Qz [(.t 5),(.t 6)],btp 4 7] [4]
def Yb:AA:=(.seq JA (.seq I9 .ret))
def fU:AN:=⟨2,[.t 4],Yb⟩
def a_ee:=zzy (zzz 1 [I9,JA])
def Pf:=rg [
bs4 6 0,bs3 7 false] [0,1,2]
def Pe:=rg [
bti 12 0,btf 13 false 12,btp 8 13] [0,1,2,8]
def Pd:=rg [
bti 14 8,bs4 9 0,btp 10 14] [0,1,2,8,9,10]
def bkz:=rg [
bti 15 9,bti 16 10,bs6 17 .lss 15 16] [0,1,2,8,9,10,17]
def bky:=rg [
bti 18 9,bti 19 10,bs6 20 .add 18 19,oo 21 (.Aj .u64 (.t 20)),oo 22 (.bin .shr (.t 21) (.c (.int .u64 1))),oo 23 (.Aj .i64 (.t 22)),btp 11 23] [0,1,2,8,9,10,11]
def bkx:=rg [
bti 24 2,bti 25 0,bti 26 11,btd 27 1 25 26,btg 28 27,bti 29 1,oo 30 (.CD false (.t 24) [(.t 28),(.t 29)]),bs5 31 .lss 30 0] [0,1,2,8,9,10,11,31]
def bkw:=rg [
bti 32 11,bs5 33 .add 32 1,btp 9 33] [0,1,2,8,9,10]
def bkv:=rg [
bti 34 11,btp 10 34] [0,1,2,8,9,10]
def bod:AA:=(.seq (.seq bkz (.cond (.t 17) .skip (.exit 0))) (.block 1 (.seq bky (.seq bkx (.cond (.t 31) bkw bkv)))))
def bqi:=btb bod.eq_1
def T4:=rg [
bti 35 9,bti 36 9,bti 37 8,bs6 38 .lss 36 37,bti 39 38,bta 40 39 true 2,bta 41 39 true 0,bta 42 39 true 9,og 43 39 true (.Ch 1 (.t 41) (.t 42)),og 44 39 true (.load none (.t 43)),bta 45 39 true 1,og 46 39 true (.CD false (.t 40) [(.t 44),(.t 45)]),og 47 39 true (.bin .eql (.t 46) (ci 0)),btm 48 39 47,btp 6 35,btp 7 48] [6,7]
def Vx:AA:=(.seq Pf (.seq Pe (.seq Pd (.seq (.block 0 (.loop bod)) (.seq T4 .ret)))))
def kB:AN:=⟨3,[.t 6,.t 7],Vx⟩
def a_aa:=zzy (zzz 7 [bkv,bkw,bkx,bky,bkz,Pd,Pe,Pf]++[(8,[6,7])])
def L5:=rg [
oo 2 (.alloc [.AL,.AL])] [0,2]
def L3:=rg [
oo 3 (.alloc [.AL,.AL])] [0,2,3]
def Lz:=rg [
bti 11 0,bs7 12 Qy [(.t 11)],btp 4 12] [0,2,3,4]
def Ly:=rg [
bti 13 4,btf 14 false 13,oo 15 (.mv (ci 0))] [0,2,3,4,13,14,15]
def bfg:=rg [
bs6 16 .lss 15 14] [0,2,3,4,13,14,15,16]
def bff:=rg [
btd 17 1 13 15,btg 18 17,btp 6 18] [0,2,3,4,6,13,14,15]
@[go_sem] def azy:Ops:=[
bs8 19 0 3,btg 20 19,bti 21 6,bs7 22 EH [(.t 21)],bs7 23 FX [(.t 22)],oo 24 (.lit false 1 1 (.sl []) [(0,(.t 23))]),oo 25 (.append 1 24 (.t 20) (.t 24)),bs8 26 0 3,bto 1 26 25]
def azz:List (Nat×Nat):=[(0,2),(1,2),(0,3),(1,3),(0,4),(1,4),(0,5),(1,5)]
def bfe:AA:= .region azy azz [0,2,3,4,13,14,15]
@[go_sem] theorem r_bu_6_u:Gu X K s bfe azz azy [0,2,3,4,13,14,15]:=go_regionU' _ _ _ _
def bfd:=rg [
bs5 27 .add 15 1,bti 15 27] [0,2,3,4,13,14,15]
def bn5:AA:=(.seq bfg (.seq (.cond (.t 16) .skip (.exit 0)) (.seq (.block 1 (.seq bff bfe)) bfd)))
def bqj:=btb bn5.eq_1
def Td:=rg [
bti 28 0,btf 29 false 28,oo 30 (.mv (ci 0))] [2,3,4,28,29,30]
def amc:=rg [
bs6 31 .lss 30 29] [2,3,4,28,29,30,31]
def amb:=rg [
btd 32 1 28 30,btg 33 32,btp 8 33] [2,3,4,8,28,29,30]
def ama:=rg [
bti 35 4,bti 36 8,bs7 37 Ru [(.t 35),(.t 36),(.c (.fn G5))],bti 34 37,btq 38 34 0,btq 39 34 1,btp 9 38,btp 10 39] [2,3,4,9,28,29,30]
def al9:=rg [
bs8 40 1 3,btg 41 40,bti 42 9,oo 43 (.lit false 1 1 (.int .i64 0) [(0,(.t 42))]),oo 44 (.append 1 8 (.t 41) (.t 43)),bs8 45 1 3,bto 1 45 44] [2,3,4,28,29,30]
def al8:=rg [
bs5 46 .add 30 1,bti 30 46] [2,3,4,28,29,30]
def arc:AA:=(.seq amc (.seq (.cond (.t 31) .skip (.exit 2)) (.seq (.block 3 (.seq amb (.seq ama al9))) al8)))
def bqk:=btb arc.eq_1
@[go_sem] def ab8:Ops:=[
bs8 47 0 3,btg 48 47,oo 49 (.call true n_gr [(.t 48)]),bs8 50 1 3,btg 51 50,oo 52 (.call true n_gu [(.t 51)]),bs8 53 0 3,bto 1 53 49,bs8 54 1 3,bto 1 54 52]
def ab9:List (Nat×Nat):=[(0,3),(1,3),(2,3),(0,4),(1,4),(2,4),(5,6)]
def bfi:AA:= .region ab8 ab9 [2,3]
@[go_sem] theorem r_bu_16_u:Gu X K s bfi ab9 ab8 [2,3]:=go_regionU' _ _ _ _
def bfh:=rg [
bth 55 2 3,bto 2 2 55] [2]
def Y1:AA:=(.seq L5 (.seq L3 (.seq Lz (.seq (.seq Ly (.block 0 (.loop bn5))) (.seq (.seq Td (.block 2 (.loop arc))) (.seq bfi (.seq bfh .ret)))))))
def iQ:AN:=⟨1,[.cell 2 (some 2)],Y1⟩
def a_bu:AJ:=⟨[25,44,49,52],bte [(13,al9),(7,bfd),(5,bff),(4,bfg),(3,Ly),(2,Lz),(1,L3),(0,L5)]++[(15,[2]),(14,[2,3]),(12,[2,3,4,28,29,30]),(11,[2,3,4,9,28,29,30]),(10,[2,3,4,8,28,29,30]),(9,[2,3,4,28,29,30,31]),(8,[2,3,4,28,29,30]),(6,[0,2,3,4,13,14,15])],[],[],[],[]⟩
def Nv:=rg [
oo 4 (.asg (.c .AL))] [0,1]
def Nu:=rg [
bti 12 0,btf 13 false 12,bs5 14 .eql 13 0] [0,1,14]
@[go_sem] def Tr:Ops:=[
oo 15 (.lit false 1 0 (.int .u8 0) []),btp 4 15]
def dS:=rg Tr [4]
def Nt:=rg [
bti 16 0,btf 17 false 16,bs5 18 .eql 17 1] [0,1,18]
def Ns:=rg [
bti 19 0,oo 20 (.Ch 1 (.t 19) (ci 0)),btg 21 20,oo 22 (.append 1 1 (.c .AL) (.t 21)),btp 4 22] [4]
def Nr:=rg [
bs4 5 0] [0,1,5]
def Nq:=rg [
bti 23 1,btf 24 false 23,bs5 25 .gtr 24 0] [0,1,5,25]
@[go_sem] def Tq:Ops:=[
bti 26 1,btf 27 false 26,bti 28 0,btf 29 false 28,bs5 30 .sub 29 1,oo 31 (.bin .quo (ci 9223372036854775807) (.t 30)),bs6 32 .geq 27 31]
def dR:=rg Tq [0,1,5,32]
@[go_sem] def Tp:Ops:=[
oo 33 (.mkI qm (.c (.str [98,121,116,101,115,58,32,74,111,105,110,32,111,117,116,112,117,116,32,108,101,110,103,116,104,32,111,118,101,114,102,108,111,119]))),ow (.bad)]
def dQ:=rg Tp [0,1,5]
@[go_sem] def To:Ops:=[
bti 34 5,bti 35 1,btf 36 false 35,bti 37 0,btf 38 false 37,bs5 39 .sub 38 1,bs6 40 .mul 36 39,bs6 41 .add 34 40,btp 5 41]
def dP:=rg To [0,1,5]
def bhs:=rg [
bti 42 0,btf 43 false 42,oo 44 (.mv (ci 0))] [0,1,5,42,43,44]
def anu:=rg [
bs6 45 .lss 44 43] [0,1,5,42,43,44,45]
def ant:=rg [
btd 46 1 42 44,btg 47 46,btp 7 47] [0,1,5,7,42,43,44]
def ans:=rg [
bti 48 7,btf 49 false 48,bti 50 5,oo 51 (.bin .sub (ci 9223372036854775807) (.t 50)),bs6 52 .gtr 49 51] [0,1,5,7,42,43,44,52]
@[go_sem] def bhq:Ops:=[
oo 53 (.mkI qm (.c (.str [98,121,116,101,115,58,32,74,111,105,110,32,111,117,116,112,117,116,32,108,101,110,103,116,104,32,111,118,101,114,102,108,111,119]))),ow (.bad)]
def bhr:=rg bhq [0,1,5,7,42,43,44]
def anr:=rg [
bti 54 5,bti 55 7,btf 56 false 55,bs6 57 .add 54 56,btp 5 57] [0,1,5,42,43,44]
def anq:=rg [
bs5 58 .add 44 1,bti 44 58] [0,1,5,42,43,44]
def aro:AA:=(.seq anu (.seq (.cond (.t 45) .skip (.exit 0)) (.seq (.block 1 (.seq ant (.seq (.seq ans (.cond (.t 52) bhr .skip)) anr))) anq)))
def bql:=btb aro.eq_1
def bhp:=rg [
bti 59 5,oo 60 (.call true Q0 [(.t 59)]),bti 61 5,bti 62 5,oo 63 (.slice 1 (.t 60) none (some (.t 61)) (some (.t 62))),btp 8 63] [0,1,8]
def bho:=rg [
bti 64 8,bti 65 0,oo 66 (.Ch 1 (.t 65) (ci 0)),btg 67 66,oo 68 (.copy 1 (.t 64) (.t 67)),btp 9 68] [0,1,8,9]
def bhn:=rg [
bti 69 0,oo 70 (.slice 1 (.t 69) (some (ci 1)) none none),btf 71 false 70,oo 72 (.mv (ci 0))] [1,8,9,70,71,72]
def anp:=rg [
bs6 73 .lss 72 71] [1,8,9,70,71,72,73]
def ano:=rg [
btd 74 1 70 72,btg 75 74,btp 11 75] [1,8,9,11,70,71,72]
def ann:=rg [
bti 76 9,bti 77 8,bti 78 9,oo 79 (.slice 1 (.t 77) (some (.t 78)) none none),bti 80 1,oo 81 (.copy 1 (.t 79) (.t 80)),bs6 82 .add 76 81,btp 9 82] [1,8,9,11,70,71,72]
def anm:=rg [
bti 83 9,bti 84 8,bti 85 9,oo 86 (.slice 1 (.t 84) (some (.t 85)) none none),bti 87 11,oo 88 (.copy 1 (.t 86) (.t 87)),bs6 89 .add 83 88,btp 9 89] [1,8,9,70,71,72]
def anl:=rg [
bs5 90 .add 72 1,bti 72 90] [1,8,9,70,71,72]
def arn:AA:=(.seq anp (.seq (.cond (.t 73) .skip (.exit 2)) (.seq (.block 3 (.seq ano (.seq ann anm))) anl)))
def bqm:=btb arn.eq_1
def ank:=rg [
bti 91 8,btp 4 91] [4]
def SG:AA:=(.seq Nv (.seq Nu (.cond (.t 14) (.seq dS .ret) (.seq Nt (.cond (.t 18) (.seq Ns .ret) (.seq Nr (.seq (.seq Nq (.cond (.t 25) (.seq (.seq dR (.cond (.t 32) dQ .skip)) dP) .skip)) (.seq (.seq bhs (.block 0 (.loop aro))) (.seq bhp (.seq bho (.seq (.seq bhn (.block 2 (.loop arn))) (.seq ank .ret))))))))))))
def jM:AN:=⟨2,[.t 4],SG⟩
def a_av:AJ:=⟨[60],zzz 24 [anm,.ret,ano,.ret,.ret,.ret,.ret,.ret,anq,anr,.ret,ans,ant,anu,bhs,.ret,.ret,.ret,Nq,Nr,Ns,Nt,.ret,Nu,Nv]++[(25,[4]),(23,[1,8,9,70,71,72]),(21,[1,8,9,11,70,71,72]),(20,[1,8,9,70,71,72,73]),(19,[1,8,9,70,71,72]),(18,[0,1,8,9]),(17,[0,1,8]),(14,[0,1,5,7,42,43,44]),(9,[0,1,5]),(8,[0,1,5]),(7,[0,1,5,32]),(2,[4])],[],[],[],[]⟩
def KE:=rg [
oo 2 (.asg (.c .AL)),oo 3 (.asg (.c .AL))] [0]
def KD:=rg [
bti 7 0,btf 8 false 7,oo 9 (.mkS 1 8 (.int .i64 0) (ci 0) (.t 8)),btp 4 9] [0,4]
def KC:=rg [
bti 10 0,btf 11 false 10,oo 12 (.mv (ci 0))] [0,4,10,11,12]
def bdz:=rg [
bs6 13 .lss 12 11] [0,4,10,11,12,13]
def bdy:=rg [
btd 14 1 10 12,btg 15 14,btp 6 15] [0,4,6,10,11,12]
def bdx:=rg [
bti 16 4,bti 17 6,btf 18 false 17,oo 19 (.lit false 1 1 (.int .i64 0) [(0,(.t 18))]),oo 20 (.append 1 8 (.t 16) (.t 19)),btp 4 20] [0,4,10,11,12]
def bdw:=rg [
bs5 21 .add 12 1,bti 12 21] [0,4,10,11,12]
def bnv:AA:=(.seq bdz (.seq (.cond (.t 13) .skip (.exit 0)) (.seq (.block 1 (.seq bdy bdx)) bdw)))
def bqn:=btb bnv.eq_1
def TW:=rg [
bti 22 0,bs7 23 Rl [(.t 22),(.c .AL)],bs7 24 FX [(.t 23)],bti 25 4,btp 2 24,btp 3 25] [2,3]
def Vp:AA:=(.seq KE (.seq KD (.seq (.seq KC (.block 0 (.loop bnv))) (.seq TW .ret))))
def gN:AN:=⟨1,[.t 2,.t 3],Vp⟩
def a_df:AJ:=⟨[20],zzz 6 [bdw,bdx,bdy,bdz,KC,KD,KE]++[(7,[2,3])],[],[],[],[]⟩
def Mi:=rg [
bti 11 2,btl 12 11] [0,1,12]
def Mh:=rg [
bti 14 1,bs7 15 Pp [(.t 14)],bti 13 15,btq 16 13 0,btq 17 13 1,btp 6 16,btp 7 17] [0,6,7]
def Mg:=rg [
bti 18 0,bti 19 6,bs7 20 FZ [(.t 18),(ci 1),(.t 19)]] [0,7]
def Mf:=rg [
bti 21 0,bti 22 7,bs7 23 FY [(.t 21),(ci 2),(.t 22),(.c (.bool false))]] []
def Me:=rg [
bti 24 1,bs7 25 RZ [(.t 24)],oo 8 (.alloc [.AL,.AL]),bto 2 8 25] [0,8]
def Md:=rg [
bs8 27 0 8,btg 28 27,bs7 29 Pp [(.t 28)],bti 26 29,btq 30 26 0,btq 31 26 1,btp 9 30,btp 10 31] [0,8,9,10]
def Mc:=rg [
bti 32 0,bs8 33 0 8,btg 34 33,btf 35 false 34,oo 36 (.build [(.int .i64 0),(.int .i64 0)] [(0,1,(ci 1)),(1,1,(.t 35))]),btj 37 32,bs8 38 7 37,bto 2 38 36] [0,8,9,10]
def Mb:=rg [
bti 39 0,bs8 40 1 8,btg 41 40,bs7 42 FY [(.t 39),(ci 1),(.t 41),(.c (.bool false))]] [0,9,10]
def Ma:=rg [
bti 43 0,bti 44 10,bs7 45 FY [(.t 43),(ci 2),(.t 44),(.c (.bool false))]] [0,9]
def MZ:=rg [
bti 46 0,bti 47 9,bs7 48 FZ [(.t 46),(ci 3),(.t 47)]] []
def SD:AA:=(.seq Mi (.cond (.t 12) (.seq Mh (.seq Mg (.seq Mf .ret))) (.seq Me (.seq Md (.seq Mc (.seq Mb (.seq Ma MZ)))))))
def iY:AN:=⟨3,[],SD⟩
def a_bk:=zzy (zzz 9 [MZ,Ma,Mb,Mc,Md,Me,Mf,Mg,Mh,Mi])
def JJ:=rg [
bs3 4 false] [0,1]
def JI:=rg [
bti 5 1,oo 6 (.B2 true [(.t 5),(ci 0)]),oo 7 (.B2 false [(.t 6),(ci 100)]),btp 1 7] [0,1]
def JH:=rg [
bti 8 0,btf 9 false 8,bs5 10 .gtr 9 0,bti 11 10,bta 12 11 true 0,og 13 11 true (.call false Qy [(.t 12)]),og 14 11 true (.len false (.t 13)),og 15 11 true (.bin .mul (ci 100) (.t 14)),bta 16 11 true 1,bta 17 11 true 0,og 18 11 true (.len false (.t 17)),og 19 11 true (.bin .mul (.t 16) (.t 18)),og 20 11 true (.bin .leq (.t 15) (.t 19)),btm 21 11 20,btp 4 21] [4]
def Vm:AA:=(.seq JJ (.seq JI (.seq JH .ret)))
def fX:AN:=⟨2,[.t 4],Vm⟩
def a_e9:=zzy (zzz 2 [JH,JI,JJ])
def Kn:=rg [
oo 4 (.asg (.c (.int .u64 0))),oo 5 (.asg (.c (.int .u64 0)))] [0,1]
def Km:=rg [
bti 14 0,oo 15 (.bin .and (.t 14) (.c (.int .u64 4294967295))),btp 6 15] [0,1,6]
def Kl:=rg [
bti 16 0,oo 17 (.bin .shr (.t 16) (.c (.int .u64 32))),btp 7 17] [0,1,6,7]
def Kk:=rg [
bti 18 1,oo 19 (.bin .and (.t 18) (.c (.int .u64 4294967295))),btp 8 19] [0,1,6,7,8]
def Kj:=rg [
bti 20 1,oo 21 (.bin .shr (.t 20) (.c (.int .u64 32))),btp 9 21] [0,1,6,7,8,9]
def Ki:=rg [
bti 22 6,bti 23 8,bs6 24 .mul 22 23,btp 10 24] [0,1,6,7,8,9,10]
def Kh:=rg [
bti 25 7,bti 26 8,bs6 27 .mul 25 26,bti 28 10,oo 29 (.bin .shr (.t 28) (.c (.int .u64 32))),bs6 30 .add 27 29,btp 11 30] [0,1,6,7,9,11]
def Kg:=rg [
bti 31 11,oo 32 (.bin .and (.t 31) (.c (.int .u64 4294967295))),btp 12 32] [0,1,6,7,9,11,12]
def Ke:=rg [
bti 33 11,oo 34 (.bin .shr (.t 33) (.c (.int .u64 32))),btp 13 34] [0,1,6,7,9,12,13]
def Kd:=rg [
bti 35 12,bti 36 6,bti 37 9,bs6 38 .mul 36 37,bs6 39 .add 35 38,btp 12 39] [0,1,7,9,12,13]
def bec:=rg [
bti 40 7,bti 41 9,bs6 42 .mul 40 41,bti 43 13,bs6 44 .add 42 43,bti 45 12,oo 46 (.bin .shr (.t 45) (.c (.int .u64 32))),bs6 47 .add 44 46,btp 4 47] [0,1,4]
def beb:=rg [
bti 48 0,bti 49 1,bs6 50 .mul 48 49,btp 5 50] [4,5]
def Yt:AA:=(.seq Kn (.seq Km (.seq Kl (.seq Kk (.seq Kj (.seq Ki (.seq Kh (.seq Kg (.seq Ke (.seq Kd (.seq bec (.seq beb .ret))))))))))))
def gX:AN:=⟨2,[.t 4,.t 5],Yt⟩
def a_cy:=zzy (zzz 11 [beb,bec,Kd,Ke,Kg,Kh,Ki,Kj,Kk,Kl,Km,Kn])
def Ii:=rg [
oo 4 (.asg (.c (.int .u64 0))),oo 5 (.asg (.c (.int .u64 0)))] [0,1]
@[go_sem] def TM:Ops:=[
bti 11 0,oo 12 (.Aj .u32 (.t 11)),bti 13 1,oo 14 (.Aj .u32 (.t 13)),bs7 15 n_ij [(.t 12),(.t 14)],bti 10 15,btq 16 10 0,btq 17 10 1,btp 6 16,btp 7 17]
def cX:=rg TM [6,7]
@[go_sem] def TL:Ops:=[
bti 18 6,oo 19 (.Aj .u64 (.t 18)),bti 20 7,oo 21 (.Aj .u64 (.t 20)),btp 4 19,btp 5 21]
def cW:=rg TL [4,5]
def Ih:=rg [
bti 23 0,bti 24 1,bs7 25 RM [(.t 23),(.t 24)],bti 22 25,btq 26 22 0,btq 27 22 1,btp 8 26,btp 9 27] [8,9]
def Ig:=rg [
bti 28 8,bti 29 9,btp 4 28,btp 5 29] [4,5]
def YW:AA:=(.seq Ii (.seq (.cond (.c (.bool false)) (.seq cX (.seq cW .ret)) .skip) (.seq Ih (.seq Ig .ret))))
def fL:AN:=⟨2,[.t 4,.t 5],YW⟩
def a_fm:=zzy (bte [(4,Ig),(3,Ih),(0,Ii)]++[(2,[4,5]),(1,[6,7])])
def OZ:=rg [
oo 4 (.asg (.c .AL))] [0,1]
def OY:=rg [
bti 9 1,bs5 10 .lss 9 0] [0,1,10]
@[go_sem] def Tv:Ops:=[
oo 11 (.mkI qm (.c (.str [99,97,110,110,111,116,32,98,101,32,110,101,103,97,116,105,118,101]))),ow (.bad)]
def dX:=rg Tv [0,1]
def OX:=rg [
bti 13 0,btf 14 false 13,oo 15 (.Aj .u64 (.t 14)),bti 16 1,oo 17 (.Aj .u64 (.t 16)),bs7 18 Q1 [(.t 15),(.t 17)],bti 12 18,btq 19 12 0,btq 20 12 1,btp 5 19,btp 6 20] [0,5,6]
def OW:=rg [
bti 21 5,oo 22 (.bin .gtr (.t 21) (.c (.int .u64 0))),bti 23 22,bta 24 23 false 6,og 25 23 false (.bin .gtr (.t 24) (.c (.int .u64 9223372036854775807))),btn 26 23 25] [0,6,26]
@[go_sem] def Tu:Ops:=[
oo 27 (.mkI qm (.c (.str [116,104,101,32,114,101,115,117,108,116,32,111,102,32,40,108,101,110,40,120,41,32,42,32,99,111,117,110,116,41,32,111,118,101,114,102,108,111,119,115]))),ow (.bad)]
def dW:=rg Tu [0,6]
def OV:=rg [
bti 28 6,oo 29 (.Aj .i64 (.t 28)),oo 30 (.mkS 1 8 (.int .i64 0) (.t 29) (.t 29)),btp 7 30] [0,7]
def OU:=rg [
bti 31 7,bti 32 0,oo 33 (.copy 1 (.t 31) (.t 32)),btp 8 33] [7,8]
def bix:=rg [
bti 34 8,bti 35 7,btf 36 false 35,bs6 37 .lss 34 36] [7,8,37]
@[go_sem] def a6y:Ops:=[
bti 38 8,bti 39 7,bti 40 8,oo 41 (.slice 1 (.t 39) (some (.t 40)) none none),bti 42 7,bti 43 8,oo 44 (.slice 1 (.t 42) none (some (.t 43)) none),oo 45 (.copy 1 (.t 41) (.t 44)),bs6 46 .add 38 45,btp 8 46]
def a6z:List (Nat×Nat):=[(0,1),(0,2),(1,2),(0,3),(0,4),(1,4),(2,4),(3,4),(0,5),(1,5),(2,5),(3,5),(4,5),(0,6),(1,6),(2,6),(3,6),(0,7)]
def biw:AA:= .region a6y a6z [7,8]
@[go_sem] theorem r_aj_9_u:Gu X K s biw a6z a6y [7,8]:=go_regionU' _ _ _ _
def arr:AA:=(.seq (.seq bix (.cond (.t 37) .skip (.exit 0))) (.block 1 biw))
def bqo:=btb arr.eq_1
def an8:=rg [
bti 47 7,btp 4 47] [4]
def ZB:AA:=(.seq OZ (.seq (.seq OY (.cond (.t 10) dX .skip)) (.seq OX (.seq (.seq OW (.cond (.t 26) dW .skip)) (.seq OV (.seq OU (.seq (.block 0 (.loop arr)) (.seq an8 .ret))))))))
def jT:AN:=⟨2,[.t 4],ZB⟩
def a_aj:=zzy (zzz 8 [bix,OU,OV,.ret,OW,OX,.ret,OY,OZ]++[(10,[4]),(9,[7,8]),(5,[0,6]),(2,[0,1])])
def Lk:=rg [
oo 2 (.asg (.c .AL))] [0]
def Lj:=rg [
oo 3 (.asg (.c .AL))] [0,3]
def Li:=rg [
bti 6 0,btf 7 false 6,oo 8 (.mv (ci 0))] [3,6,7,8]
def be4:=rg [
bs6 9 .lss 8 7] [3,6,7,8,9]
def be3:=rg [
btd 10 1 6 8,btg 11 10,btp 5 11] [3,5,6,7,8]
def be2:=rg [
bti 12 3,bti 13 5,bs7 14 G4 [(.t 13)],bs7 15 GG [(.t 12),(.t 14)],btp 3 15] [3,6,7,8]
def be1:=rg [
bs5 16 .add 8 1,bti 8 16] [3,6,7,8]
def bn3:AA:=(.seq be4 (.seq (.cond (.t 9) .skip (.exit 0)) (.seq (.block 1 (.seq be3 be2)) be1)))
def bqp:=btb bn3.eq_1
def be0:=rg [
bti 17 3,bs7 18 FX [(.t 17)],btp 2 18] [2]
def Yz:AA:=(.seq Lk (.seq Lj (.seq (.seq Li (.block 0 (.loop bn3))) (.seq be0 .ret))))
def iM:AN:=⟨1,[.t 2],Yz⟩
def a_c7:=zzy (zzz 6 [be1,be2,be3,be4,Li,Lj,Lk]++[(7,[2])])
def MS:=rg [
oo 2 (.asg (.c (.int .u64 0)))] [0]
def MR:=rg [
bti 5 0,bs5 6 .leq 5 0] [0,6]
def MQ:=rg [
oo 2 (.asg (.c (.int .u64 0)))] [2]
def MP:=rg [
bs4 3 0] [0,3]
def MO:=rg [
bti 7 0,btp 4 7] [0,3,4]
def bfr:=rg [
bti 8 4,bs5 9 .rem 8 10,bs5 10 .eql 9 0,bti 11 10,bta 12 11 true 3,og 13 11 true (.bin .lss (.t 12) (ci 8)),btm 14 11 13] [0,3,4,14]
def bfq:=rg [
bti 17 3,bs5 18 .add 17 1,btp 3 18] [0,3,4]
def bfp:=rg [
bti 15 4,bs5 16 .quo 15 10,btp 4 16] [0,3,4]
def bn6:AA:=(.seq (.seq bfr (.cond (.t 14) .skip (.exit 0))) (.seq (.block 1 bfq) bfp))
def bqq:=btb bn6.eq_1
def bfo:=rg [
bti 19 3,bs5 20 .lss 19 2] [0,3,20]
def amp:=rg [
bti 21 0,oo 22 (.Aj .u64 (.t 21)),oo 23 (.bin .shl (.t 22) (.c (.int .u64 3))),btp 2 23] [2]
def amo:=rg [
bti 24 3,oo 25 (.mv (ci 0))] [0,3,24,25]
def amn:=rg [
bs6 26 .lss 25 24] [0,3,24,25,26]
def amm:=rg [
bti 27 0,bs5 28 .quo 27 10,btp 0 28] [0,3,24,25]
def aml:=rg [
bs5 29 .add 25 1,bti 25 29] [0,3,24,25]
def aac:AA:=(.seq amn (.seq (.cond (.t 26) .skip (.exit 2)) (.seq (.block 3 amm) aml)))
def bqr:=btb aac.eq_1
def x9:=rg [
bti 30 0,oo 31 (.Aj .u64 (.t 30)),oo 32 (.bin .shl (.t 31) (.c (.int .u64 3))),bti 33 3,bs5 34 .sub 33 1,oo 35 (.Aj .u64 (.t 34)),bs6 36 .or 32 35,btp 2 36] [2]
def SA:AA:=(.seq MS (.seq MR (.cond (.t 6) (.seq MQ .ret) (.seq MP (.seq (.seq MO (.block 0 (.loop bn6))) (.seq bfo (.cond (.t 20) (.seq amp .ret) (.seq (.seq amo (.block 2 (.loop aac))) (.seq x9 .ret)))))))))
def iU:AN:=⟨1,[.t 2],SA⟩
def a_bo:=zzy (zzz 13 [amm,.ret,.ret,.ret,.ret,.ret,bfp,bfq,bfr,MO,MP,MQ,MR,MS]++[(14,[2]),(12,[0,3,24,25]),(11,[0,3,24,25,26]),(10,[0,3,24,25]),(9,[2]),(8,[0,3,20])])
def KU:=rg [
bs4 2 0] [0]
def KT:=rg [
bti 3 0,bs7 4 Ra [(.t 3)],oo 5 (.Aj .i64 (.t 4)),btp 2 5] [2]
def Yr:AA:=(.seq KU (.seq KT .ret))
def gT:AN:=⟨1,[.t 2],Yr⟩
def a_d7:=zzy (zzz 1 [KT,KU])
def LA:=rg [
oo 4 (.asg (.c .AL))] [0,1]
def K9:=rg [
bti 8 0,btf 9 false 8,oo 10 (.mkS 1 8 (.int .i64 0) (.t 9) (.t 9)),btp 5 10] [0,1,5]
def K8:=rg [
bti 11 0,btf 12 false 11,oo 13 (.mv (ci 0))] [1,5,11,12,13]
def bek:=rg [
bs6 14 .lss 13 12] [1,5,11,12,13,14]
def bej:=rg [
bti 15 13,btd 16 1 11 13,btg 17 16,btp 6 15,btp 7 17] [1,5,6,7,11,12,13]
def bei:=rg [
bti 18 5,bti 19 6,bti 20 1,bti 21 7,oo 22 (.CD false (.t 20) [(.t 21)]),btd 23 1 18 19,bto 1 23 22] [1,5,11,12,13]
def beh:=rg [
bs5 24 .add 13 1,bti 13 24] [1,5,11,12,13]
def bny:AA:=(.seq bek (.seq (.cond (.t 14) .skip (.exit 0)) (.seq (.block 1 (.seq bej bei)) beh)))
def bqs:=btb bny.eq_1
def beg:=rg [
bti 25 5,btp 4 25] [4]
def Yu:AA:=(.seq LA (.seq K9 (.seq (.seq K8 (.block 0 (.loop bny))) (.seq beg .ret))))
def iC:AN:=⟨2,[.t 4],Yu⟩
def a_ct:=zzy (zzz 6 [beh,bei,bej,bek,K8,K9,LA]++[(7,[4])])
def Kw:=rg [
bs4 2 0] [0]
def Kv:=rg [
bti 8 0,btf 9 false 8,oo 10 (.B2 false [(.t 9),(ci 2)]),btp 3 10] [0,3]
def Ku:=rg [
bti 11 3,bs5 12 .lss 11 2] [0,3,12]
def Kt:=rg [
bti 13 3,btp 2 13] [2]
@[go_sem] def aw7:Ops:=[
bti 15 0,oo 16 (.Ch 1 (.t 15) (ci 1)),btg 17 16,bti 18 0,oo 19 (.Ch 1 (.t 18) (ci 0)),btg 20 19,bs7 21 GX [(.t 17),(.t 20)],bti 14 21,btq 22 14 0,btq 23 14 1,btp 4 22,btp 5 23]
def aw8:List (Nat×Nat):=[(0,3),(1,3),(2,3),(0,4),(1,4),(2,4),(0,5),(1,5),(2,5),(8,9),(9,10)]
def TY:AA:= .region aw7 aw8 [0,3,4,5]
@[go_sem] theorem r_cw_4_u:Gu X K s TY aw8 aw7 [0,3,4,5]:=go_regionU' _ _ _ _
def Ks:=rg [
bti 24 5,btl 25 24] [0,3,4,25]
def Kr:=rg [
bs4 2 1] [2]
def bef:=rg [
bti 26 3,bti 27 0,btf 28 false 27,bs6 29 .lss 26 28] [0,3,4,29]
@[go_sem] def aw2:Ops:=[
bti 31 0,bti 32 3,btd 33 1 31 32,btg 34 33,bti 35 0,bti 36 3,bs5 37 .sub 36 1,btd 38 1 35 37,btg 39 38,bs7 40 GX [(.t 34),(.t 39)],bti 30 40,btq 41 30 0,btq 42 30 1,btp 6 41,btp 7 42]
def aw3:List (Nat×Nat):=[(0,1),(0,4),(1,4),(2,4),(3,4),(0,5),(1,5),(2,5),(3,5),(4,5),(0,6),(1,6),(2,6),(3,6),(4,6),(0,7),(1,7),(2,7),(3,7),(0,8),(1,8),(2,8),(3,8),(11,12),(12,13)]
def bee:AA:= .region aw2 aw3 [0,3,4,6,7]
@[go_sem] theorem r_cw_8_u:Gu X K s bee aw3 aw2 [0,3,4,6,7]:=go_regionU' _ _ _ _
def bed:=rg [
bti 43 7,btl 44 43,bti 45 44,bta 46 45 false 6,bta 47 45 false 4,og 48 45 false (.bin .neq (.t 46) (.t 47)),btn 49 45 48] [0,3,4,49]
def al1:=rg [
bti 50 3,bs5 51 .add 50 1,btp 3 51] [0,3,4]
def ara:AA:=(.seq (.seq bef (.cond (.t 29) .skip (.exit 0))) (.block 1 (.seq bee (.seq (.seq bed (.cond (.t 49) (.exit 0) .skip)) al1))))
def bqt:=btb ara.eq_1
def al0:=rg [
bti 52 3,btp 2 52] [2]
def R7:AA:=(.seq Kw (.seq Kv (.seq Ku (.cond (.t 12) (.seq Kt .ret) (.seq TY (.seq Ks (.cond (.t 25) (.seq Kr .ret) (.seq (.block 0 (.loop ara)) (.seq al0 .ret)))))))))
def gZ:AN:=⟨1,[.t 2],R7⟩
def a_cw:=zzy (zzz 10 [al1,bed,.ret,bef,Kr,Ks,.ret,Kt,Ku,Kv,Kw]++[(11,[2]),(8,[0,3,4,6,7]),(4,[0,3,4,5])])
def JK:=rg [
bti 6 0,btg 7 1,bs6 8 .gtr 6 7] [0,1,2,3,4,8]
@[go_sem] def att:Ops:=[
btg 9 2,btg 10 3,btg 11 1,bti 12 0,oo 13 (.slice 1 (.t 10) (some (.t 11)) (some (.t 12)) none),btg 14 4,bs7 15 Hr [(.t 9),(.t 13),(.t 14)],bto 1 2 15]
def atu:List (Nat×Nat):=[(0,1),(0,2),(1,2),(0,3),(1,3),(2,3),(0,4),(0,5),(1,5),(2,5),(3,5),(4,5)]
def TO:AA:= .region att atu []
@[go_sem] theorem r_dz_1_u:Gu X K s TO atu att []:=go_regionU' _ _ _ _
def R6:AA:=(.seq JK (.cond (.t 8) TO .skip))
def fY:AN:=⟨5,[],R6⟩
def a_dz:=zzy (zzz 0 [JK]++[(1,[])])
def Nl:=rg [
oo 2 (.box 1 (.t 0)),oo 3 (.box 1 (.t 1)),oo 4 (.asg (.c .AL))] [2,3]
def r_dz:=rg [
oo 5 (.alloc [.AL])] [2,3,5]
def Nk:=rg [
oo 6 (.alloc [(.int .i64 0)]),ow (.store 1 (.t 6) (ci 0))] [2,3,5,6]
def Nj:=rg [
oo 10 (.mkF Q7 [] [(.t 6),(.t 5),(.t 2),(.t 3)]),btp 7 10] [2,3,5,6,7]
def Ni:=rg [
bs4 8 0] [2,3,5,6,7,8]
def bhg:=rg [
bti 11 8,btg 12 2,btf 13 false 12,bs6 14 .lss 11 13] [2,3,5,6,7,8,14]
def bhf:=rg [
btg 15 2,bti 16 8,oo 17 (.slice 1 (.t 15) (some (.t 16)) none none),bs7 18 RO [(.t 17)],btp 9 18] [2,3,5,6,7,8,9]
def bhe:=rg [
bti 19 9,bs5 20 .lss 19 8] [2,3,5,6,7,8,9,20]
def bhd:=rg [
bti 21 8,bs5 22 .add 21 1,btp 8 22] [2,3,5,6,7,8]
def bhc:=rg [
bti 23 7,bti 24 8,oo 25 (.CD false (.t 23) [(.t 24)])] [2,3,5,6,7,8,9]
@[go_sem] def aej:Ops:=[
btg 26 5,btg 27 2,bti 28 8,bti 29 8,bti 30 9,bs6 31 .add 29 30,oo 32 (.slice 1 (.t 27) (some (.t 28)) (some (.t 31)) none),btg 33 3,bs7 34 Hr [(.t 26),(.t 32),(.t 33)],bto 1 5 34]
def aek:List (Nat×Nat):=[(0,1),(0,2),(1,2),(0,3),(1,3),(2,3),(0,4),(1,4),(2,4),(3,4),(0,5),(1,5),(2,5),(0,6),(0,7),(1,7),(2,7),(3,7),(4,7),(5,7),(6,7)]
def anj:AA:= .region aej aek [2,3,5,6,7,8,9]
@[go_sem] theorem r_ax_10_u:Gu X K s anj aek aej [2,3,5,6,7,8,9]:=go_regionU' _ _ _ _
def ani:=rg [
bti 35 8,bti 36 9,bs6 37 .add 35 36,btp 8 37] [2,3,5,6,7,8]
def anh:=rg [
bti 38 8,bto 1 6 38] [2,3,5,6,7,8]
def arm:AA:=(.seq (.seq bhg (.cond (.t 14) .skip (.exit 0))) (.block 1 (.seq bhf (.seq (.seq bhe (.cond (.t 20) (.seq bhd (.exit 1)) .skip)) (.seq bhc (.seq anj (.seq ani anh)))))))
def bqu:=btb arm.eq_1
def ang:=rg [
bti 39 7,btg 40 2,btf 41 false 40,oo 42 (.CD false (.t 39) [(.t 41)])] [5]
def anf:=rg [
btg 43 5,btp 4 43] [4]
def Y6:AA:=(.seq Nl (.seq r_dz (.seq Nk (.seq Nj (.seq (.seq Ni (.block 0 (.loop arm))) (.seq ang (.seq anf .ret)))))))
def jK:AN:=⟨2,[.t 4],Y6⟩
def a_ax:=zzy (zzz 12 [anh,ani,.ret,bhc,bhd,bhe,bhf,bhg,Ni,Nj,Nk,.ret,Nl]++[(14,[4]),(13,[5]),(10,[2,3,5,6,7,8,9]),(1,[2,3,5])])
def Oi:=rg [
oo 6 (.asg (.c .AL)),bs4 7 0] [0,1,2]
def Oh:=rg [
bti 21 1,bs7 22 Ps [(.t 21)],bti 20 22,btq 23 20 0,btq 24 20 1,btq 25 20 2,btp 8 23,btp 9 24,btp 10 25] [0,1,2,8,9,10]
def Og:=rg [
bti 26 1,btf 27 false 26,bs5 28 .lss 27 2,bti 29 28,bta 30 29 false 1,og 31 29 false (.len false (.t 30)),og 32 29 false (.bin .gtr (.t 31) (ci 512)),btn 33 29 32,bti 34 33,bta 35 34 false 1,bta 36 34 false 2,og 37 34 false (.call false G8 [(.t 35),(.t 36)]),btn 38 34 37,bti 39 38,bta 40 39 false 10,og 41 39 false (.un .not (.t 40)),btn 42 39 41] [0,1,2,8,9,42]
def Od:=rg [
oo 6 (.asg (.c .AL)),bs4 7 1] [6,7]
def Oc:=rg [
oo 11 (.asg (.c .AL))] [0,1,2,8,9,11]
def Ob:=rg [
bs4 12 2] [0,1,2,8,9,11,12]
def Oa:=rg [
bs4 13 2] [0,1,2,8,9,11,12,13]
def bi0:=rg [
bti 43 13,bti 44 1,btf 45 false 44,bs6 46 .lss 43 45] [0,1,2,8,9,11,12,13,46]
@[go_sem] def a7c:Ops:=[
bti 50 1,bti 51 13,btd 52 1 50 51,btg 53 52,bti 54 1,bti 55 13,bs5 56 .sub 55 1,btd 57 1 54 56,btg 58 57,bs7 59 GX [(.t 53),(.t 58)],bti 49 59,btq 60 49 0,btq 61 49 1,btp 14 60,btp 15 61]
def a7d:List (Nat×Nat):=[(0,1),(0,4),(1,4),(2,4),(3,4),(0,5),(1,5),(2,5),(3,5),(4,5),(0,6),(1,6),(2,6),(3,6),(4,6),(0,7),(1,7),(2,7),(3,7),(0,8),(1,8),(2,8),(3,8),(11,12),(12,13)]
def biz:AA:= .region a7c a7d [0,1,2,8,9,11,12,13,14]
@[go_sem] theorem r_ai_8_u:Gu X K s biz a7d a7c [0,1,2,8,9,11,12,13,14]:=go_regionU' _ _ _ _
def biy:=rg [
bti 62 14,oo 63 (.Aj .u64 (.t 62)),btp 16 63] [0,1,2,8,9,11,12,13,14,16]
def aom:=rg [
bti 64 14,bs5 65 .lss 64 0] [0,1,2,8,9,11,12,13,16,65]
def aol:=rg [
bti 66 16,oo 67 (.un .neg (.t 66)),btp 16 67] [0,1,2,8,9,11,12,13,16]
def aok:=rg [
bti 68 11,bti 69 16,oo 70 (.lit false 1 1 (.int .u64 0) [(0,(.t 69))]),oo 71 (.append 1 8 (.t 68) (.t 70)),btp 11 71] [0,1,2,8,9,11,12,13,16]
def aoj:=rg [
bti 72 12,bti 73 16,bs7 74 Ho [(.t 73)],oo 75 (.B2 true [(.t 72),(.t 74)]),btp 12 75] [0,1,2,8,9,11,12,13]
def aoi:=rg [
bti 47 13,bs5 48 .add 47 1,btp 13 48] [0,1,2,8,9,11,12,13]
def ars:AA:=(.seq (.seq bi0 (.cond (.t 46) .skip (.exit 0))) (.seq (.block 1 (.seq biz (.seq biy (.seq (.seq aom (.cond (.t 65) aol .skip)) (.seq aok aoj))))) aoi))
def bqv:=btb ars.eq_1
def aoh:=rg [
bs4 17 0,bs4 18 0] [0,1,2,8,9,11,12,17,18]
def aog:=rg [
bti 76 9,btl 77 76] [0,1,2,8,9,11,12,17,18,77]
def aof:=rg [
bti 78 12,bs7 79 UR [(.t 78)],btp 17 79] [0,1,2,8,9,11,17]
def aoe:=rg [
bti 81 17,bs7 82 US [(.t 81)],bti 80 82,btq 83 80 0,btq 84 80 1,btp 18 83] [0,1,2,8,9,11,17,18]
@[go_sem] def af6:Ops:=[
bti 85 0,bti 86 18,bti 87 1,btf 88 false 87,bs7 89 Ph [(.t 85),(ci 3),(.t 86),(.t 88)],bti 90 1,oo 91 (.Ch 1 (.t 90) (ci 0)),btg 92 91,bti 93 2,bs7 94 Hp [(.t 92),(.t 93)],bs7 95 GG [(.t 89),(.t 94)],btp 19 95]
def af7:List (Nat×Nat):=[(0,1),(0,2),(1,2),(0,3),(1,3),(0,5),(1,5),(2,5),(3,5),(4,5),(0,6),(1,6),(2,6),(3,6),(4,6),(0,7),(1,7),(2,7),(3,7),(4,7),(0,8),(1,8),(2,8),(3,8),(4,8),(5,8),(6,8),(7,8)]
def aod:AA:= .region af6 af7 [8,9,11,17,19]
@[go_sem] theorem r_ai_20_u:Gu X K s aod af7 af6 [8,9,11,17,19]:=go_regionU' _ _ _ _
def aoc:=rg [
bti 96 19,bti 97 8,bs7 98 G4 [(.t 97)],bs7 99 GG [(.t 96),(.t 98)],btp 19 99] [9,11,17,19]
def aob:=rg [
bti 100 9] [11,17,19,100]
def aoa:=rg [
bti 101 19,btp 6 101,bs4 7 0] [6,7]
def an9:=rg [
bti 102 19,bti 103 11,bti 104 17,bs7 105 Pr [(.t 102),(.t 103),(.t 104)],btp 6 105,bs4 7 0] [6,7]
def QE:AA:=(.seq Oi (.seq Oh (.seq Og (.cond (.t 42) (.seq Od .ret) (.seq Oc (.seq Ob (.seq (.seq Oa (.block 0 (.loop ars))) (.seq aoh (.seq (.seq aog (.cond (.t 77) (.seq aof aoe) .skip)) (.seq aod (.seq aoc (.seq aob (.cond (.t 100) (.seq aoa .ret) (.seq (.seq (.BV [11]) an9) .ret))))))))))))))
def jU:AN:=⟨3,[.t 6,.t 7],QE⟩
def a_ai:AJ:=⟨[71],bte [(23,aoa),(14,aoi),(12,aok),(7,bi0),(6,Oa),(5,Ob),(4,Oc),(3,Od),(2,Og),(1,Oh),(0,Oi)]++[(22,[6,7]),(21,[11,17,19,100]),(20,[9,11,17,19]),(19,[8,9,11,17,19]),(18,[0,1,2,8,9,11,17,18]),(17,[0,1,2,8,9,11,17]),(16,[0,1,2,8,9,11,12,17,18,77]),(15,[0,1,2,8,9,11,12,17,18]),(8,[0,1,2,8,9,11,12,13]),(13,[0,1,2,8,9,11,12,13,16]),(11,[0,1,2,8,9,11,12,13,16,65]),(10,[0,1,2,8,9,11,12,13,14,16]),(9,[0,1,2,8,9,11,12,13,14])],[(23,[11])],[],[],[]⟩
def Nh:=rg [
oo 6 (.asg (.c .AL))] [0,1,2]
def Ng:=rg [
bti 8 0,oo 9 (.call true EH [(.t 8)]),btp 7 9] [1,2,7]
def Nf:=rg [
bti 10 2] [1,7,10]
def Nd:=rg [
bs5 12 .eql 10 8,btp 11 12] [1,7,10,11]
def Nc:=rg [
bs5 14 .eql 10 7,btp 13 14] [1,7,10,13]
def Nb:=rg [
bs5 16 .eql 10 6,btp 15 16] [1,7,10,15]
def Na:=rg [
bs5 18 .eql 10 5,btp 17 18] [1,7,10,17]
def NZ:=rg [
bs5 20 .eql 10 4,btp 19 20] [1,7,10,19]
def NY:=rg [
bs5 22 .eql 10 3,btp 21 22] [1,7,10,21]
def NX:=rg [
bs5 24 .eql 10 2,btp 23 24] [1,7,10,23]
def bhb:=rg [
bs5 26 .eql 10 1,btp 25 26] [1,7,25]
def bha:=rg [
bti 27 7,bti 28 1,oo 29 (.bin .shr (.t 28) (.c (.int .u64 56))),oo 30 (.Aj .u8 (.t 29)),oo 31 (.lit false 1 1 (.int .u8 0) [(0,(.t 30))]),oo 32 (.append 1 1 (.t 27) (.t 31)),btp 7 32] [1,7]
def bg9:=rg [
bti 33 7,bti 34 1,oo 35 (.bin .shr (.t 34) (.c (.int .u64 48))),oo 36 (.Aj .u8 (.t 35)),oo 37 (.lit false 1 1 (.int .u8 0) [(0,(.t 36))]),oo 38 (.append 1 1 (.t 33) (.t 37)),btp 7 38] [1,7]
def bg8:=rg [
bti 39 7,bti 40 1,oo 41 (.bin .shr (.t 40) (.c (.int .u64 40))),oo 42 (.Aj .u8 (.t 41)),oo 43 (.lit false 1 1 (.int .u8 0) [(0,(.t 42))]),oo 44 (.append 1 1 (.t 39) (.t 43)),btp 7 44] [1,7]
def bg7:=rg [
bti 45 7,bti 46 1,oo 47 (.bin .shr (.t 46) (.c (.int .u64 32))),oo 48 (.Aj .u8 (.t 47)),oo 49 (.lit false 1 1 (.int .u8 0) [(0,(.t 48))]),oo 50 (.append 1 1 (.t 45) (.t 49)),btp 7 50] [1,7]
def bg6:=rg [
bti 51 7,bti 52 1,oo 53 (.bin .shr (.t 52) (.c (.int .u64 24))),oo 54 (.Aj .u8 (.t 53)),oo 55 (.lit false 1 1 (.int .u8 0) [(0,(.t 54))]),oo 56 (.append 1 1 (.t 51) (.t 55)),btp 7 56] [1,7]
def bg5:=rg [
bti 57 7,bti 58 1,oo 59 (.bin .shr (.t 58) (.c (.int .u64 16))),oo 60 (.Aj .u8 (.t 59)),oo 61 (.lit false 1 1 (.int .u8 0) [(0,(.t 60))]),oo 62 (.append 1 1 (.t 57) (.t 61)),btp 7 62] [1,7]
def bg4:=rg [
bti 63 7,bti 64 1,oo 65 (.bin .shr (.t 64) (.c (.int .u64 8))),oo 66 (.Aj .u8 (.t 65)),oo 67 (.lit false 1 1 (.int .u8 0) [(0,(.t 66))]),oo 68 (.append 1 1 (.t 63) (.t 67)),btp 7 68] [1,7]
def bg3:=rg [
bti 69 7,bti 70 1,oo 71 (.Aj .u8 (.t 70)),oo 72 (.lit false 1 1 (.int .u8 0) [(0,(.t 71))]),oo 73 (.append 1 1 (.t 69) (.t 72)),btp 7 73] [7]
def bg2:=rg [
bti 74 7,bs7 75 FX [(.t 74)],btp 6 75] [6]
def GR:AA:=(.seq Nh (.seq Ng (.seq (.seq Nf (.block 0 (.seq (.block 8 (.seq (.block 7 (.seq (.block 6 (.seq (.block 5 (.seq (.block 4 (.seq (.block 3 (.seq (.block 2 (.seq (.block 1 (.seq (.seq (.seq Nd (.cond (.t 11) (.exit 1) .skip)) (.seq (.seq Nc (.cond (.t 13) (.exit 2) .skip)) (.seq (.seq Nb (.cond (.t 15) (.exit 3) .skip)) (.seq (.seq Na (.cond (.t 17) (.exit 4) .skip)) (.seq (.seq NZ (.cond (.t 19) (.exit 5) .skip)) (.seq (.seq NY (.cond (.t 21) (.exit 6) .skip)) (.seq (.seq NX (.cond (.t 23) (.exit 7) .skip)) (.seq bhb (.cond (.t 25) (.exit 8) .skip))))))))) (.exit 0))) bha)) bg9)) bg8)) bg7)) bg6)) bg5)) bg4)) (.seq bg3 (.exit 0))))) (.seq bg2 .ret))))
def jJ:AN:=⟨3,[.t 6],GR⟩
def a_ay:AJ:=⟨[9,32,38,44,50,56,62,68,73],zzz 19 [bg2,bg3,bg4,bg5,bg6,bg7,bg8,bg9,bha,bhb,NX,NY,NZ,Na,Nb,Nc,Nd,Nf,Ng,Nh],[],[],[],[]⟩
def KO:=rg [
oo 8 (.asg (.c .AL)),bs4 9 0] [0,1,2,3]
def KN:=rg [
bti 13 2,bs5 14 .lss 13 3,bti 15 14,bta 16 15 false 2,og 17 15 false (.bin .gtr (.t 16) (ci 10)),btn 18 15 17,bti 19 18,bta 20 19 false 1,og 21 19 false (.lit false 1 1 (.int .i64 0) [(0,(.t 20))]),bta 22 19 false 3,og 23 19 false (.call false G8 [(.t 21),(.t 22)]),btn 24 19 23] [0,1,2,3,24]
@[go_sem] def TX:Ops:=[
oo 8 (.asg (.c .AL)),bs4 9 1]
def dE:=rg TX [8,9]
def KM:=rg [
bti 25 1,bti 26 3,bs7 27 Hp [(.t 25),(.t 26)],btp 10 27] [0,2,10]
def KL:=rg [
bti 28 10,bs7 29 Ho [(.t 28)],bs5 30 .add 29 7,bs5 31 .quo 30 8,oo 32 (.B2 true [(.t 31),(ci 1)]),btp 11 32] [0,2,10,11]
def KK:=rg [
bti 33 0,oo 34 (.call true EH [(.t 33)]),bti 35 11,bs5 36 .sub 35 1,oo 37 (.bin .shl (.t 36) (.c (.int .u64 3))),oo 38 (.bin .or (ci 0) (.t 37)),bti 39 2,bs5 40 .sub 39 3,bs6 41 .or 38 40,oo 42 (.Aj .u8 (.t 41)),oo 43 (.lit false 1 1 (.int .u8 0) [(0,(.t 42))]),oo 44 (.append 1 1 (.t 34) (.t 43)),btp 12 44] [10,11,12]
def KJ:=rg [
bti 45 12,bti 46 10,bti 47 11,bs7 48 Rh [(.t 45),(.t 46),(.t 47)],btp 8 48,bs4 9 0] [8,9]
def Vr:AA:=(.seq KO (.seq KN (.cond (.t 24) (.seq dE .ret) (.seq KM (.seq KL (.seq KK (.seq KJ .ret)))))))
def gQ:AN:=⟨4,[.t 8,.t 9],Vr⟩
def a_da:AJ:=⟨[34],zzz 6 [KJ,KK,KL,KM,.ret,KN,KO]++[(2,[8,9])],[],[],[],[]⟩
def Mv:=rg [
bs4 2 0,bs3 3 false,bs3 4 false] [0,2]
def Mu:=rg [
bs3 3 true,bs3 4 true] [0,2,3,4]
def Mt:=rg [
bs4 5 1] [0,2,3,4,5]
def bgj:=rg [
bti 8 5,bti 9 0,btf 10 false 9,bs6 11 .lss 8 10] [0,2,3,4,5,11]
@[go_sem] def a2m:Ops:=[
bti 15 0,bti 16 5,btd 17 1 15 16,btg 18 17,bti 19 0,bti 20 5,bs5 21 .sub 20 1,btd 22 1 19 21,btg 23 22,bs7 24 GX [(.t 18),(.t 23)],bti 14 24,btq 25 14 0,btq 26 14 1,btp 6 25,btp 7 26]
def a2n:List (Nat×Nat):=[(0,1),(0,4),(1,4),(2,4),(3,4),(0,5),(1,5),(2,5),(3,5),(4,5),(0,6),(1,6),(2,6),(3,6),(4,6),(0,7),(1,7),(2,7),(3,7),(0,8),(1,8),(2,8),(3,8),(11,12),(12,13)]
def bgi:AA:= .region a2m a2n [0,2,3,4,5,6,7]
@[go_sem] theorem r_bc_4_u:Gu X K s bgi a2n a2m [0,2,3,4,5,6,7]:=go_regionU' _ _ _ _
def bgh:=rg [
bti 28 7,btl 29 28,btp 27 29] [0,2,3,4,5,6,27]
def bgg:=rg [
bti 30 5,bs5 31 .eql 30 1] [0,2,5,31]
def bgf:=rg [
bs4 2 0] [0,2,5]
def bge:=rg [
bs3 3 false,bs3 4 false] [0,2,3,4,5]
def bgd:=rg [
bti 33 5,bs5 34 .eql 33 1,btp 32 34] [0,2,3,4,5,6,32]
def amx:=rg [
bti 35 6,btp 2 35] [0,2,3,4,5,6]
def yb:=rg [
bti 36 3,bti 37 36,bta 38 37 true 6,bta 39 37 true 2,og 40 37 true (.bin .eql (.t 38) (.t 39)),btm 41 37 40,btp 3 41] [0,2,3,4,5,6]
def sc:=rg [
bti 42 4,bti 43 42,bta 44 43 true 6,og 45 43 true (.bin .neq (.t 44) (ci (-9223372036854775808))),btm 46 43 45,bti 47 46,bta 48 47 true 2,og 49 47 true (.bin .eql (.t 48) (ci 0)),bta 50 47 true 49,bta 51 50 true 6,og 52 50 true (.bin .eql (.t 51) (ci 0)),og 53 47 true (.pick (.t 50) (.t 52) (.c (.bool false))),bta 54 47 true 53,bta 55 54 false 2,og 56 54 false (.bin .gtr (.t 55) (ci 0)),bta 57 54 false 56,bta 58 57 true 6,og 59 57 true (.bin .geq (.t 58) (ci 0)),og 60 54 false (.pick (.t 57) (.t 59) (.c (.bool false))),og 61 47 true (.pick (.t 54) (.c (.bool true)) (.t 60)),bta 62 47 true 61,bta 63 62 false 2,og 64 62 false (.bin .lss (.t 63) (ci 0)),bta 65 62 false 64,bta 66 65 true 6,og 67 65 true (.bin .leq (.t 66) (ci 0)),og 68 62 false (.pick (.t 65) (.t 67) (.c (.bool false))),og 69 47 true (.pick (.t 62) (.c (.bool true)) (.t 68)),btm 70 47 69,btp 4 70] [0,2,3,4,5]
def sb:=rg [
bti 12 5,bs5 13 .add 12 1,btp 5 13] [0,2,3,4,5]
def t7:AA:=(.seq (.seq bgj (.cond (.t 11) .skip (.exit 0))) (.seq (.block 1 (.seq bgi (.seq (.block 2 (.seq bgh (.cond (.t 27) (.seq (.seq bgg (.cond (.t 31) bgf .skip)) (.seq bge (.exit 1))) (.seq bgd (.cond (.t 32) amx .skip))))) (.seq yb sc)))) sb))
def bqw:=btb t7.eq_1
def sa:=rg [
bti 71 2,bti 72 3,bti 73 4,btp 2 71,btp 3 72,btp 4 73] [2,3,4]
def Y3:AA:=(.seq Mv (.seq Mu (.seq (.seq Mt (.block 0 (.loop t7))) (.seq sa .ret))))
def jB:AN:=⟨1,[.t 2,.t 3,.t 4],Y3⟩
def a_bc:=zzy (bte [(13,sb),(11,yb),(3,bgj),(2,Mt),(1,Mu),(0,Mv)]++[(14,[2,3,4]),(4,[0,2,3,4,5]),(12,[0,2,3,4,5,6]),(9,[0,2,3,4,5]),(8,[0,2,5]),(7,[0,2,5,31]),(10,[0,2,3,4,5,6,32]),(6,[0,2,3,4,5,6,27]),(5,[0,2,3,4,5,6,7])])
def MN:=rg [
oo 6 (.asg (.c .AL))] [0,1,2]
def MM:=rg [
bti 14 0,oo 15 (.call true EH [(.t 14)]),btp 7 15] [1,2,7]
def ML:=rg [
bti 16 2,bs5 17 .lss 16 0,bti 18 17,bta 19 18 false 2,og 20 18 false (.bin .gtr (.t 19) (ci 64)),btn 21 18 20] [1,2,7,21]
@[go_sem] def Tg:Ops:=[
bti 22 7,btp 6 22]
def dH:=rg Tg [6]
def MK:=rg [
bs4 8 0] [1,2,7,8]
def MJ:=rg [
bti 23 1,btf 24 false 23,oo 25 (.mv (ci 0))] [2,7,8,23,24,25]
def bfn:=rg [
bs6 26 .lss 25 24] [2,7,8,23,24,25,26]
def bfm:=rg [
btd 27 1 23 25,btg 28 27,btp 10 28] [2,7,8,10,23,24,25]
def bfl:=rg [
bti 29 2,btp 11 29] [2,7,8,10,11,23,24,25]
def bfk:=rg [
bti 30 11,bs5 31 .gtr 30 0] [2,7,8,10,11,23,24,25,31]
def amk:=rg [
bti 32 8,bs5 33 .eql 32 0] [2,7,8,10,11,23,24,25,33]
def amj:=rg [
bti 34 7,oo 35 (.lit false 1 1 (.int .u8 0) [(0,(.c (.int .u8 0)))]),oo 36 (.append 1 1 (.t 34) (.t 35)),btp 7 36,bs4 8 8] [2,7,8,10,11,23,24,25]
def x8:=rg [
bti 37 11,bti 38 8,oo 39 (.B2 false [(.t 37),(.t 38)]),btp 12 39] [2,7,8,10,11,12,23,24,25]
@[go_sem] def acr:Ops:=[
bti 40 10,bti 41 11,bti 42 12,bs6 43 .sub 41 42,bs6 44 .shr 40 43,bti 45 12,oo 46 (.bin .shl (.c (.int .u64 1)) (.t 45)),oo 47 (.bin .sub (.t 46) (.c (.int .u64 1))),bs6 48 .and 44 47,oo 49 (.Aj .u8 (.t 48)),btp 13 49]
def acs:List (Nat×Nat):=[(0,1),(0,2),(1,2),(0,3),(0,5),(1,5),(2,5),(3,5),(4,5),(0,6),(1,6),(2,6),(3,6),(4,6),(0,7),(1,7),(2,7),(3,7),(4,7)]
def x7:AA:= .region acr acs [2,7,8,10,11,12,13,23,24,25]
@[go_sem] theorem r_bp_13_u:Gu X K s x7 acs acr [2,7,8,10,11,12,13,23,24,25]:=go_regionU' _ _ _ _
@[go_sem] def acp:Ops:=[
bti 50 7,bti 51 7,btf 52 false 51,bs5 53 .sub 52 1,btd 54 1 50 53,btg 55 54,bti 56 13,bti 57 8,bti 58 12,bs6 59 .sub 57 58,bs6 60 .shl 56 59,bs6 61 .or 55 60,btd 62 1 50 53,bto 1 62 61]
def acq:List (Nat×Nat):=[(0,1),(0,2),(0,3),(0,6),(1,6),(2,6),(3,6),(4,6),(5,6),(0,7),(1,7),(2,7),(3,7),(4,7),(5,7),(6,7),(0,8),(1,8),(2,8),(3,8),(4,8),(5,8),(6,8),(7,8),(0,9),(1,9),(2,9),(3,9),(4,9),(5,9),(6,9),(0,10),(1,10),(2,10),(3,10),(4,10),(5,10)]
def x6:AA:= .region acp acq [2,7,8,10,11,12,23,24,25]
@[go_sem] theorem r_bp_14_u:Gu X K s x6 acq acp [2,7,8,10,11,12,23,24,25]:=go_regionU' _ _ _ _
def xz:=rg [
bti 63 11,bti 64 12,bs6 65 .sub 63 64,bti 66 8,bti 67 12,bs6 68 .sub 66 67,btp 11 65,btp 8 68] [2,7,8,10,11,23,24,25]
def pm:AA:=(.seq (.seq bfk (.cond (.t 31) .skip (.exit 2))) (.block 3 (.seq (.seq amk (.cond (.t 33) amj .skip)) (.seq x8 (.seq x7 (.seq x6 xz))))))
def bqx:=btb pm.eq_1
def xy:=rg [
bs5 69 .add 25 1,bti 25 69] [2,7,8,23,24,25]
def aab:AA:=(.seq bfn (.seq (.cond (.t 26) .skip (.exit 0)) (.seq (.block 1 (.seq bfm (.seq bfl (.block 2 (.loop pm))))) xy)))
def bqy:=btb aab.eq_1
def xx:=rg [
bti 70 7,bs7 71 FX [(.t 70)],btp 6 71] [6]
def Vu:AA:=(.seq MN (.seq MM (.seq ML (.cond (.t 21) (.seq dH .ret) (.seq MK (.seq (.seq MJ (.block 0 (.loop aab))) (.seq xx .ret)))))))
def iT:AN:=⟨3,[.t 6],Vu⟩
def a_bp:AJ:=⟨[15,36],zzz 15 [xz,.ret,.ret,x8,amj,amk,bfk,bfl,bfm,bfn,MJ,MK,.ret,ML,MM,MN]++[(17,[6]),(16,[2,7,8,23,24,25]),(14,[2,7,8,10,11,12,23,24,25]),(13,[2,7,8,10,11,12,13,23,24,25]),(3,[6])],[],[],[],[]⟩
def Ie:=rg [
oo 8 (.asg (.c .AL))] [0,1,2,3]
def Ic:=rg [
bti 9 0,oo 10 (.call true EH [(.t 9)]),bti 11 1,oo 12 (.bin .shl (.t 11) (.c (.int .u64 6))),bti 13 2,oo 14 (.bin .shl (.t 13) (.c (.int .u64 1))),bs6 15 .or 12 14,bti 16 3,bs5 17 .sub 16 1,oo 18 (.bin .shr (.t 17) (.c (.int .u64 8))),bs6 19 .or 15 18,oo 20 (.Aj .u8 (.t 19)),bti 21 3,bs5 22 .sub 21 1,oo 23 (.Aj .u8 (.t 22)),oo 24 (.lit false 1 2 (.int .u8 0) [(0,(.t 20)),(1,(.t 23))]),oo 25 (.append 1 1 (.t 10) (.t 24)),btp 8 25] [8]
def Vi:AA:=(.seq Ie (.seq Ic .ret))
def fK:AN:=⟨4,[.t 8],Vi⟩
def a_fw:AJ:=⟨[10],zzz 1 [Ic,Ie],[],[],[],[]⟩
def K7:=rg [
bs4 2 0] [0,2]
def K6:=rg [
bti 3 0,oo 4 (.bin .geq (.t 3) (.c (.int .u64 4294967296)))] [0,2,4]
def K5:=rg [
bti 5 0,oo 6 (.bin .shr (.t 5) (.c (.int .u64 32))),btp 0 6] [0]
def K4:=rg [
bs4 2 32] [0,2]
def K3:=rg [
bti 7 0,oo 8 (.bin .geq (.t 7) (.c (.int .u64 65536)))] [0,2,8]
def K2:=rg [
bti 9 0,oo 10 (.bin .shr (.t 9) (.c (.int .u64 16))),btp 0 10] [0,2]
def K1:=rg [
bti 11 2,bs5 12 .add 11 16,btp 2 12] [0,2]
def K0:=rg [
bti 13 0,oo 14 (.bin .geq (.t 13) (.c (.int .u64 256)))] [0,2,14]
def Kz:=rg [
bti 15 0,oo 16 (.bin .shr (.t 15) (.c (.int .u64 8))),btp 0 16] [0,2]
def Ky:=rg [
bti 17 2,bs5 18 .add 17 8,btp 2 18] [0,2]
@[go_sem] def r9:Ops:=[
bti 19 2,bti 20 0,oo 21 (.Aj .u8 (.t 20)),oo 22 (.P1 (.c (.str [0,1,2,2,3,3,3,3,4,4,4,4,4,4,4,4,5,5,5,5,5,5,5,5,5,5,5,5,5,5,5,5,6,6,6,6,6,6,6,6,6,6,6,6,6,6,6,6,6,6,6,6,6,6,6,6,6,6,6,6,6,6,6,6,7,7,7,7,7,7,7,7,7,7,7,7,7,7,7,7,7,7,7,7,7,7,7,7,7,7,7,7,7,7,7,7,7,7,7,7,7,7,7,7,7,7,7,7,7,7,7,7,7,7,7,7,7,7,7,7,7,7,7,7,7,7,7,7,8,8,8,8,8,8,8,8,8,8,8,8,8,8,8,8,8,8,8,8,8,8,8,8,8,8,8,8,8,8,8,8,8,8,8,8,8,8,8,8,8,8,8,8,8,8,8,8,8,8,8,8,8,8,8,8,8,8,8,8,8,8,8,8,8,8,8,8,8,8,8,8,8,8,8,8,8,8,8,8,8,8,8,8,8,8,8,8,8,8,8,8,8,8,8,8,8,8,8,8,8,8,8,8,8,8,8,8,8,8,8,8,8,8,8,8,8,8,8,8,8,8,8,8,8,8,8,8])) (.t 21)),oo 23 (.Aj .i64 (.t 22)),bs6 24 .add 19 23,btp 2 24]
def xw:=rg r9 [2]
@[go_sem] theorem r_cu_10_u:Gr X K s xw r9 [2]:=go_region _ _
def Fy:AA:=(.seq K7 (.seq (.seq K6 (.cond (.t 4) (.seq K5 K4) .skip)) (.seq (.seq K3 (.cond (.t 8) (.seq K2 K1) .skip)) (.seq (.seq K0 (.cond (.t 14) (.seq Kz Ky) .skip)) (.seq xw .ret)))))
def iA:AN:=⟨1,[.t 2],Fy⟩
def a_cu:=zzy (zzz 9 [Ky,Kz,K0,K1,K2,K3,K4,K5,K6,K7]++[(10,[2])])
def Ib:=rg [
bs4 2 0] [0]
def Ia:=rg [
bti 3 0,bs7 4 RP [(.t 3)],btp 2 4] [2]
def YV:AA:=(.seq Ib (.seq Ia .ret))
def fJ:AN:=⟨1,[.t 2],YV⟩
def a_fy:=zzy (zzz 1 [Ia,Ib])
def Iy:=rg [
oo 4 (.asg (.c (.int .u64 0)))] [0,1]
def Iw:=rg [
bti 5 1] [0,5]
def Iv:=rg [
bti 6 0,bs7 7 G4 [(.t 6)],btp 4 7] [4]
def Iu:=rg [
bti 8 0,oo 9 (.Aj .u64 (.t 8)),btp 4 9] [4]
def Vk:AA:=(.seq Iy (.seq Iw (.cond (.t 5) (.seq Iv .ret) (.seq Iu .ret))))
def fR:AN:=⟨2,[.t 4],Vk⟩
def a_ej:=zzy (zzz 3 [Iu,Iv,Iw,Iy])
def Ms:=rg [
oo 6 (.asg (.c .AL)),bs4 7 0] [0,1,2]
def Mr:=rg [
bti 15 1,btf 16 false 15,bs5 17 .lss 16 1,bti 18 17,bta 19 18 false 1,og 20 18 false (.len false (.t 19)),og 21 18 false (.bin .gtr (.t 20) (ci 512)),btn 22 18 21,bti 23 22,bta 24 23 false 1,bta 25 23 false 2,og 26 23 false (.call false G8 [(.t 24),(.t 25)]),btn 27 23 26] [0,1,2,27]
@[go_sem] def Th:Ops:=[
oo 6 (.asg (.c .AL)),bs4 7 1]
def dJ:=rg Th [6,7]
def Mq:=rg [
bti 28 1,btf 29 false 28,oo 30 (.mkS 1 8 (.int .u64 0) (.t 29) (.t 29)),btp 8 30] [0,1,2,8]
def Mp:=rg [
bs4 9 0] [0,1,2,8,9]
def Mo:=rg [
bti 31 1,btf 32 false 31,oo 33 (.mv (ci 0))] [0,1,2,8,9,31,32,33]
def bgc:=rg [
bs6 34 .lss 33 32] [0,1,2,8,9,31,32,33,34]
def bgb:=rg [
bti 35 33,btd 36 1 31 33,btg 37 36,btp 10 35,btp 11 37] [0,1,2,8,9,10,11,31,32,33]
def bga:=rg [
bti 38 8,bti 39 10,bti 40 11,bti 41 2,bs7 42 Hp [(.t 40),(.t 41)],btd 43 1 38 39,bto 1 43 42] [0,1,2,8,9,10,31,32,33]
def bf9:=rg [
bti 44 9,bti 45 8,bti 46 10,btd 47 1 45 46,btg 48 47,bs7 49 Ho [(.t 48)],oo 50 (.B2 true [(.t 44),(.t 49)]),btp 9 50] [0,1,2,8,9,31,32,33]
def amw:=rg [
bs5 51 .add 33 1,bti 33 51] [0,1,2,8,9,31,32,33]
def arj:AA:=(.seq bgc (.seq (.cond (.t 34) .skip (.exit 0)) (.seq (.block 1 (.seq bgb (.seq bga bf9))) amw)))
def bqz:=btb arj.eq_1
def amv:=rg [
bti 52 9,bs7 53 UR [(.t 52)],btp 12 53] [0,1,8,12]
def amu:=rg [
bti 55 12,bs7 56 US [(.t 55)],bti 54 56,btq 57 54 0,btq 58 54 1,btp 13 57,btp 14 58] [0,1,8,12,13]
def amt:=rg [
bti 59 0,bti 60 13,bti 61 1,btf 62 false 61,bs7 63 Ph [(.t 59),(ci 1),(.t 60),(.t 62)],bti 64 8,bti 65 12,bs7 66 Pr [(.t 63),(.t 64),(.t 65)],btp 6 66,bs4 7 0] [6,7]
def Y2:AA:=(.seq Ms (.seq Mr (.cond (.t 27) (.seq dJ .ret) (.seq Mq (.seq Mp (.seq (.seq Mo (.block 0 (.loop arj))) (.seq amv (.seq amu (.seq (.seq (.BV [8]) amt) .ret)))))))))
def jA:AN:=⟨3,[.t 6,.t 7],Y2⟩
def a_bg:AJ:=⟨[],zzz 10 [amw,bf9,bga,bgb,bgc,Mo,Mp,Mq,.ret,Mr,Ms]++[(13,[6,7]),(12,[0,1,8,12,13]),(11,[0,1,8,12]),(2,[6,7])],[(13,[8])],[],[],[]⟩
def Lu:=rg [
oo 6 (.asg (.c .AL))] [0,1,2]
def Lt:=rg [
bti 18 0,bti 19 1,bti 20 2,bs7 21 Rc [(.t 18),(.t 19),(.t 20)],bti 17 21,btq 22 17 0,btq 23 17 1,btp 7 22,btp 8 23] [0,1,2,7]
def Ls:=rg [
bti 25 1,bs7 26 Ps [(.t 25)],bti 24 26,btq 27 24 0,btq 28 24 1,btq 29 24 2,btp 9 27,btp 10 28,btp 11 29] [0,1,2,7,9,10,11]
def Lr:=rg [
bs4 12 1] [0,1,2,7,9,10,11,12]
def Lq:=rg [
bti 31 10,bti 32 31,bta 33 32 true 9,og 34 32 true (.bin .eql (.t 33) (ci 0)),btm 35 32 34,bti 36 35,bta 37 36 true 1,og 38 36 true (.len false (.t 37)),og 39 36 true (.bin .geq (.t 38) (ci 3)),btm 40 36 39,bti 41 40,bta 42 41 true 1,og 43 41 true (.len false (.t 42)),og 44 41 true (.bin .leq (.t 43) (ci 10)),btm 45 41 44,btp 30 45] [0,1,2,7,11,12,30]
def Lp:=rg [
bs4 12 0] [0,1,2,7,12]
def Lo:=rg [
bti 47 11,bti 48 47,bta 49 48 true 1,og 50 48 true (.len false (.t 49)),og 51 48 true (.bin .geq (.t 50) (ci 2)),btm 52 48 51,btp 46 52] [0,1,2,7,12,46]
def Ln:=rg [
bs4 12 3] [0,1,2,7,12]
def Lm:=rg [
bti 53 12] [0,1,2,7,53]
def Ll:=rg [
bs5 55 .eql 53 0,btp 54 55] [0,1,2,7,53,54]
def be8:=rg [
bs5 57 .eql 53 3,btp 56 57] [0,1,2,7,56]
def be7:=rg [
bti 59 0,bti 60 1,oo 61 (.Ch 1 (.t 60) (ci 0)),btg 62 61,bti 63 1,btf 64 false 63,bti 65 2,bs7 66 RI [(.t 59),(.t 62),(.t 64),(.t 65)],bti 58 66,btq 67 58 0,btq 68 58 1,btp 13 67,btp 14 68] [0,1,2,7,13,14]
def be6:=rg [
bti 69 14,bs5 70 .eql 69 0,bti 71 70,bta 72 71 true 13,og 73 71 true (.len false (.t 72)),bta 74 71 true 7,og 75 71 true (.len false (.t 74)),og 76 71 true (.bin .lss (.t 73) (.t 75)),btm 77 71 76] [0,1,2,7,13,77]
def be5:=rg [
bti 78 13,btp 7 78] [0,1,2,7]
def al7:=rg [
bti 80 0,bti 81 1,bti 82 2,bs7 83 Rq [(.t 80),(.t 81),(.t 82)],bti 79 83,btq 84 79 0,btq 85 79 1,btp 15 84,btp 16 85] [7,15,16]
def al6:=rg [
bti 86 16,bs5 87 .eql 86 0,bti 88 87,bta 89 88 true 15,og 90 88 true (.len false (.t 89)),bta 91 88 true 7,og 92 88 true (.len false (.t 91)),og 93 88 true (.bin .lss (.t 90) (.t 92)),btm 94 88 93] [7,15,94]
def al5:=rg [
bti 95 15,btp 7 95] [7]
def al4:=rg [
bti 96 7,btp 6 96] [6]
def EB:AA:=(.seq Lu (.seq Lt (.seq Ls (.seq Lr (.seq (.block 0 (.seq Lq (.cond (.t 30) Lp (.seq Lo (.cond (.t 46) Ln .skip))))) (.seq (.seq Lm (.block 1 (.seq (.block 3 (.seq (.block 2 (.seq (.seq (.seq Ll (.cond (.t 54) (.exit 2) .skip)) (.seq be8 (.cond (.t 56) (.exit 3) .skip))) (.exit 1))) (.seq be7 (.seq be6 (.cond (.t 77) be5 .skip))))) (.seq (.seq al7 (.seq al6 (.cond (.t 94) al5 .skip))) (.exit 1))))) (.seq al4 .ret)))))))
def iO:AN:=⟨3,[.t 6],EB⟩
def a_bz:=zzy (zzz 17 [al4,al5,al6,al7,be5,be6,be7,be8,Ll,Lm,Ln,Lo,Lp,Lq,Lr,Ls,Lt,Lu])
def I8:=rg [
bs4 4 0,bs3 5 false] [0,1]
def I7:=rg [
bti 7 0,bti 8 1,bs6 9 .sub 7 8,btp 6 9] [0,1,6]
def I6:=rg [
bti 10 6,bti 11 0,bs6 12 .lss 10 11,bti 13 1,bs5 14 .gtr 13 0,oo 15 (.eqn true .bool (.t 12) (.t 14)),bti 16 15,bta 17 16 true 1,og 18 16 true (.bin .neq (.t 17) (ci 0)),btm 19 16 18] [6,19]
def I5:=rg [
bs4 4 0,bs3 5 false] [4,5]
def I4:=rg [
bti 20 6,btp 4 20,bs3 5 true] [4,5]
def R5:AA:=(.seq I8 (.seq I7 (.seq I6 (.cond (.t 19) (.seq I5 .ret) (.seq I4 .ret)))))
def fT:AN:=⟨2,[.t 4,.t 5],R5⟩
def a_ef:=zzy (zzz 4 [I4,I5,I6,I7,I8])
def Il:=rg [
bs4 4 0,bs3 5 false] [0,1]
def Ik:=rg [
bti 9 1,bti 10 0,bs7 11 GX [(.t 9),(.t 10)],bti 8 11,btq 12 8 0,btq 13 8 1,btp 6 12,btp 7 13] [6,7]
def Ij:=rg [
bti 14 6,bti 15 7,bti 16 15,bta 17 16 true 6,og 18 16 true (.bin .geq (.t 17) (ci (-128))),btm 19 16 18,bti 20 19,bta 21 20 true 6,og 22 20 true (.bin .leq (.t 21) (ci 127)),btm 23 20 22,btp 4 14,btp 5 23] [4,5]
def QA:AA:=(.seq Il (.seq Ik (.seq Ij .ret)))
def fN:AN:=⟨2,[.t 4,.t 5],QA⟩
def a_fg:=zzy (zzz 2 [Ij,Ik,Il])
def LQ:=rg [
bs4 2 0,bs4 3 0] [0]
def LP:=rg [
bti 9 0,btf 10 false 9,bs5 11 .lss 10 2] [0,11]
def LO:=rg [
bti 12 0,btf 13 false 12,btp 2 13,bs4 3 0] [2,3]
@[go_sem] def ayb:Ops:=[
bti 15 0,oo 16 (.Ch 1 (.t 15) (ci 0)),btg 17 16,bti 18 0,oo 19 (.Ch 1 (.t 18) (ci 1)),btg 20 19,bs7 21 Pl [(.t 17),(.t 20)],bti 14 21,btq 22 14 0,btq 23 14 1,btp 4 22,btp 5 23]
def ayc:List (Nat×Nat):=[(0,3),(1,3),(2,3),(0,4),(1,4),(2,4),(0,5),(1,5),(2,5),(8,9),(9,10)]
def TZ:AA:= .region ayb ayc [0,4,5]
@[go_sem] theorem r_cn_3_u:Gu X K s TZ ayc ayb [0,4,5]:=go_regionU' _ _ _ _
def LN:=rg [
bti 24 5,btl 25 24] [0,4,25]
def LM:=rg [
bs4 2 1,bs4 3 0] [2,3]
def LL:=rg [
bs4 6 2] [0,4,6]
def beo:=rg [
bti 26 6,bti 27 0,btf 28 false 27,bs6 29 .lss 26 28] [0,4,6,29]
@[go_sem] def ax5:Ops:=[
bti 31 0,bti 32 6,bs5 33 .sub 32 1,btd 34 1 31 33,btg 35 34,bti 36 0,bti 37 6,btd 38 1 36 37,btg 39 38,bs7 40 Pl [(.t 35),(.t 39)],bti 30 40,btq 41 30 0,btq 42 30 1,btp 7 41,btp 8 42]
def ax6:List (Nat×Nat):=[(0,1),(0,2),(0,5),(1,5),(2,5),(3,5),(4,5),(0,6),(1,6),(2,6),(3,6),(4,6),(5,6),(0,7),(1,7),(2,7),(3,7),(4,7),(0,8),(1,8),(2,8),(3,8),(4,8),(11,12),(12,13)]
def ben:AA:= .region ax5 ax6 [0,4,6,7,8]
@[go_sem] theorem r_cn_8_u:Gu X K s ben ax6 ax5 [0,4,6,7,8]:=go_regionU' _ _ _ _
def bem:=rg [
bti 43 8,btl 44 43,bti 45 44,bta 46 45 false 7,bta 47 45 false 4,og 48 45 false (.bin .neq (.t 46) (.t 47)),btn 49 45 48] [0,4,6,49]
def al3:=rg [
bti 50 6,bs5 51 .add 50 1,btp 6 51] [0,4,6]
def arb:AA:=(.seq (.seq beo (.cond (.t 29) .skip (.exit 0))) (.block 1 (.seq ben (.seq (.seq bem (.cond (.t 49) (.exit 0) .skip)) al3))))
def bq0:=btb arb.eq_1
def al2:=rg [
bti 52 6,bti 53 4,btp 2 52,btp 3 53] [2,3]
def R8:AA:=(.seq LQ (.seq LP (.cond (.t 11) (.seq LO .ret) (.seq TZ (.seq LN (.cond (.t 25) (.seq LM .ret) (.seq LL (.seq (.block 0 (.loop arb)) (.seq al2 .ret)))))))))
def iE:AN:=⟨1,[.t 2,.t 3],R8⟩
def a_cn:=zzy (zzz 10 [al3,bem,.ret,beo,LL,LM,LN,.ret,LO,LP,LQ]++[(11,[2,3]),(8,[0,4,6,7,8]),(3,[0,4,5])])
def Lg:=rg [
oo 4 (.asg (.c .AL))] [0,1]
def Lf:=rg [
bti 6 0,oo 7 (.call true EH [(.t 6)]),btp 5 7] [1,5]
def bew:=rg [
bti 8 1,oo 9 (.bin .geq (.t 8) (.c (.int .u64 128)))] [1,5,9]
def bev:=rg [
bti 10 5,bti 11 1,oo 12 (.Aj .u8 (.t 11)),oo 13 (.bin .or (.t 12) (.c (.int .u8 128))),oo 14 (.lit false 1 1 (.int .u8 0) [(0,(.t 13))]),oo 15 (.append 1 1 (.t 10) (.t 14)),btp 5 15] [1,5]
def beu:=rg [
bti 16 1,oo 17 (.bin .shr (.t 16) (.c (.int .u64 7))),btp 1 17] [1,5]
def bn0:AA:=(.seq (.seq bew (.cond (.t 9) .skip (.exit 0))) (.block 1 (.seq bev beu)))
def bq1:=btb bn0.eq_1
def bet:=rg [
bti 18 5,bti 19 1,oo 20 (.Aj .u8 (.t 19)),oo 21 (.lit false 1 1 (.int .u8 0) [(0,(.t 20))]),oo 22 (.append 1 1 (.t 18) (.t 21)),bs7 23 FX [(.t 22)],btp 4 23] [4]
def R9:AA:=(.seq Lg (.seq Lf (.seq (.block 0 (.loop bn0)) (.seq bet .ret))))
def iK:AN:=⟨2,[.t 4],R9⟩
def a_c9:AJ:=⟨[7,15],zzz 4 [beu,bev,bew,Lf,Lg]++[(5,[4])],[],[],[],[]⟩
def IZ:=rg [
oo 2 (.asg (.c (.int .u64 0)))] [0]
def IY:=rg [
bti 3 0,oo 4 (.Aj .u64 (.t 3)),oo 5 (.bin .shl (.t 4) (.c (.int .u64 1))),bti 6 0,oo 7 (.bin .shr (.t 6) (.c (.int .u64 63))),oo 8 (.Aj .u64 (.t 7)),bs6 9 .xor 5 8,btp 2 9] [2]
def YU:AA:=(.seq IZ (.seq IY .ret))
def fI:AN:=⟨1,[.t 2],YU⟩
def a_fz:=zzy (zzz 1 [IY,IZ])
def JE:=rg [
oo 6 (.asg (.c .AL))] [0,1,2]
def JD:=rg [
bti 7 2] [0,1,7]
def JC:=rg [
bti 8 0,bti 9 1,bs7 10 G4 [(.t 9)],oo 11 (.call true GG [(.t 8),(.t 10)]),btp 6 11] [6]
def JB:=rg [
bti 12 0,bti 13 1,oo 14 (.Aj .u64 (.t 13)),oo 15 (.call true GG [(.t 12),(.t 14)]),btp 6 15] [6]
def Vl:AA:=(.seq JE (.seq JD (.cond (.t 7) (.seq JC .ret) (.seq JB .ret))))
def fV:AN:=⟨3,[.t 6],Vl⟩
def a_ed:AJ:=⟨[11,15],zzz 3 [JB,JC,JD,JE],[],[],[],[]⟩
def MT:=rg [
btg 6 0,bs7 7 Pk [(.t 6),(ci 128)]] [0,1,2,7]
def bfy:=rg [
btp 3 8] [1,2,3]
def bn7:AA:=bfy
def bq2:=btb bn7.eq_1
def bfx:=rg [
btg 9 1,bti 10 3,btf 11 false 10,oo 12 (.bin .sub (ci 256) (.t 11)),oo 13 (.Aj .u8 (.t 12)),oo 14 (.lit false 1 1 (.int .u8 0) [(0,(.t 13))]),oo 15 (.append 1 1 (.t 9) (.t 14)),bto 1 1 15] [1,2,3]
def bfw:=rg [
bti 16 3,btf 17 false 16,oo 18 (.mv (ci 0))] [1,2,16,17,18]
def bfv:=rg [
bs6 19 .lss 18 17] [1,2,16,17,18,19]
def bfu:=rg [
btd 20 1 16 18,btg 21 20,btp 5 21] [1,2,5,16,17,18]
def bft:=rg [
btg 22 1,bti 23 5,btg 24 2,oo 25 (.call true Pn [(.t 22),(.t 23),(.t 24)]),bto 1 1 25] [1,2,16,17,18]
def bfs:=rg [
bs5 26 .add 18 1,bti 18 26] [1,2,16,17,18]
def bai:AA:=(.seq bfv (.seq (.cond (.t 19) .skip (.exit 2)) (.seq (.block 3 (.seq bfu bft)) bfs)))
def bq3:=btb bai.eq_1
def arf:AA:=(.block 1 (.seq bfx (.seq bfw (.block 2 (.loop bai)))))
def bq4:=btb arf.eq_1
def amq:=rg [
ow (.store 1 (.t 0) (.c .AL))] []
def SB:AA:=(.seq (.seq (.seq (.AU [0]) MT) (.block 0 (.each (.t 7) [8] bn7 arf))) amq)
def iV:AN:=⟨3,[],SB⟩
def a_bn:AJ:=⟨[15,25],bte [(7,bft),(1,bfy),(0,MT)]++[(8,[]),(6,[1,2,16,17,18]),(5,[1,2,5,16,17,18]),(4,[1,2,16,17,18,19]),(3,[1,2,16,17,18]),(2,[1,2,3])],[],[],[],[(0,[0])]⟩
def Ja:=rg [
bs3 2 false] [0]
def JZ:=rg [
bti 3 0,bs5 4 .lss 3 0,btp 2 4] [2]
def Yf:AA:=(.seq Ja (.seq JZ .ret))
def gD:AN:=⟨1,[.t 2],Yf⟩
def a_dt:=zzy (zzz 1 [JZ,Ja])
def O9:=rg [
oo 3 (.box 1 (.t 1)),oo 4 (.asg (.c .AL)),bs4 5 0] [0,3]
def r_dt:=rg [
btg 14 3,btl 15 14,bti 16 15,bta 17 16 true 0,og 18 16 true (.call false Pq [(.t 17),(.c (.fn G7))]),btm 19 16 18,btp 13 19] [0,3,13]
@[go_sem] def dI:Ops:=[
oo 4 (.asg (.c .AL)),bs4 5 1]
def r_bn:=rg dI [4,5]
def O8:=rg [
bti 21 0,btf 22 false 21,bs5 23 .gtr 22 16384,btp 20 23] [0,3,20]
@[go_sem] def Tz:Ops:=[
oo 4 (.asg (.c .AL)),bs4 5 4]
def dZ:=rg Tz [4,5]
def O7:=rg [
oo 6 (.alloc [.AL])] [0,3,6]
def O6:=rg [
oo 7 (.alloc [.AL])] [0,3,6,7]
def O5:=rg [
oo 24 (.mkF Ht [] [(.t 7),(.t 6),(.t 3)]),btp 8 24] [0,3,6,7,8]
def O4:=rg [
bs4 9 0] [0,3,6,7,8,9]
def bjq:=rg [
bti 25 9,bti 26 0,btf 27 false 26,bs6 28 .lss 25 27] [0,3,6,7,8,9,28]
def apd:=rg [
bti 30 0,bti 31 9,oo 32 (.slice 1 (.t 30) (some (.t 31)) none none),bs7 33 RS [(.t 32)],bti 29 33,btq 34 29 0,btq 35 29 1,btp 10 34,btp 11 35] [0,3,6,7,8,9,10,11]
def apc:=rg [
bti 36 10,bs5 37 .lss 36 3] [0,3,6,7,8,9,10,11,37]
@[go_sem] def ah2:Ops:=[
btg 38 7,bti 39 0,bti 40 9,btd 41 1 39 40,btg 42 41,oo 43 (.lit false 1 1 (.int .i64 0) [(0,(.t 42))]),oo 44 (.append 1 8 (.t 38) (.t 43)),bto 1 7 44]
def ah3:List (Nat×Nat):=[(0,1),(0,2),(1,2),(0,3),(0,4),(0,5)]
def apb:AA:= .region ah2 ah3 [0,3,6,7,8,9]
@[go_sem] theorem r_af_12_u:Gu X K s apb ah3 ah2 [0,3,6,7,8,9]:=go_regionU' _ _ _ _
def apa:=rg [
bti 45 9,bs5 46 .add 45 1,btp 9 46] [0,3,6,7,8,9]
def ao9:=rg [
bti 47 8,oo 48 (.CD false (.t 47) [])] [0,3,6,7,8,9,10,11]
def ao8:=rg [
bti 49 10,bs5 50 .geq 49 3] [0,3,6,7,8,9,10,11,50]
def ao7:=rg [
bti 51 10,oo 52 (.B2 false [(.t 51),(ci 130)]),btp 12 52] [0,3,6,7,8,9,10,11,12]
def ao6:=rg [
bti 53 10,bti 54 12,bs6 55 .sub 53 54,bs5 56 .gtr 55 0,bti 57 56,bta 58 57 true 10,bta 59 57 true 12,og 60 57 true (.bin .sub (.t 58) (.t 59)),og 61 57 true (.bin .lss (.t 60) (ci 3)),btm 62 57 61] [0,3,6,7,8,9,10,11,12,62]
def ao5:=rg [
bti 63 10,bs5 64 .sub 63 3,btp 12 64] [0,3,6,7,8,9,10,11,12]
@[go_sem] def ahu:Ops:=[
btg 65 6,bti 66 12,bs5 67 .sub 66 3,oo 68 (.Aj .u8 (.t 67)),bti 69 11,oo 70 (.Aj .u8 (.t 69)),oo 71 (.lit false 1 2 (.int .u8 0) [(0,(.t 68)),(1,(.t 70))]),oo 72 (.append 1 1 (.t 65) (.t 71)),bti 73 0,bti 74 9,btd 75 1 73 74,btg 76 75,btg 77 3,oo 78 (.call true Pn [(.t 72),(.t 76),(.t 77)]),bto 1 6 78]
def ahv:List (Nat×Nat):=[(0,1),(0,2),(0,3),(0,4),(1,4),(2,4),(3,4),(0,5),(1,5),(2,5),(3,5),(0,6),(0,8),(1,8),(2,8),(3,8),(4,8),(5,8),(6,8),(7,8),(0,9),(1,9),(2,9),(3,9),(4,9),(5,9),(6,9),(7,9),(8,9),(0,10),(1,10),(2,10),(3,10),(4,10),(5,10),(6,10),(7,10),(0,11),(1,11),(2,11),(3,11),(4,11),(5,11),(6,11),(7,11),(0,12),(1,12),(2,12),(3,12),(4,12),(5,12),(6,12),(7,12),(8,12),(9,12),(10,12),(11,12)]
def ao4:AA:= .region ahu ahv [0,3,6,7,8,9,10,11,12]
@[go_sem] theorem r_af_19_u:Gu X K s ao4 ahv ahu [0,3,6,7,8,9,10,11,12]:=go_regionU' _ _ _ _
def ao3:=rg [
bti 79 9,bti 80 12,bs6 81 .add 79 80,bti 82 10,bti 83 12,bs6 84 .sub 82 83,btp 9 81,btp 10 84] [0,3,6,7,8,9,10,11]
def aak:AA:=(.seq (.seq ao8 (.cond (.t 50) .skip (.exit 3))) (.block 4 (.seq ao7 (.seq (.seq ao6 (.cond (.t 62) ao5 .skip)) (.seq ao4 ao3)))))
def bq5:=btb aak.eq_1
def aaj:AA:=(.seq (.seq bjq (.cond (.t 28) .skip (.exit 1))) (.block 2 (.seq apd (.seq (.seq apc (.cond (.t 37) (.seq apb (.seq apa (.exit 2))) .skip)) (.seq ao9 (.block 3 (.loop aak)))))))
def bq6:=btb aaj.eq_1
def yo:=rg [
bti 85 8,oo 86 (.CD false (.t 85) [])] [6]
def yn:=rg [
btg 87 6,bs7 88 FX [(.t 87)],btp 4 88,bs4 5 0] [4,5]
def Vw:AA:=(.seq O9 (.seq (.block 0 (.seq r_dt (.cond (.t 13) (.seq r_bn .ret) (.seq O8 (.cond (.t 20) (.seq dZ .ret) .skip))))) (.seq O7 (.seq O6 (.seq O5 (.seq (.seq O4 (.block 1 (.loop aaj))) (.seq yo (.seq yn .ret))))))))
def jX:AN:=⟨2,[.t 4,.t 5],Vw⟩
def a_af:AJ:=⟨[44,78],zzz 20 [ao3,.ret,ao5,ao6,ao7,ao8,ao9,apa,.ret,apc,apd,bjq,O4,O5,O6,O7,.ret,O8,.ret,.ret,O9]++[(22,[4,5]),(21,[6]),(19,[0,3,6,7,8,9,10,11,12]),(12,[0,3,6,7,8,9]),(2,[4,5]),(4,[4,5]),(1,[0,3,13])],[],[],[],[]⟩
def JG:=rg [
bs3 2 false] [0]
def JF:=rg [
bti 3 0,bs5 4 .lss 3 0,btp 2 4] [2]
def Yc:AA:=(.seq JG (.seq JF .ret))
def fW:AN:=⟨1,[.t 2],Yc⟩
def a_eb:=zzy (zzz 1 [JF,JG])
def OQ:=rg [
bs4 4 0] [0,1]
def OP:=rg [
bti 6 0,btf 7 false 6,oo 8 (.mv (ci 0))] [0,1,7,8]
def biq:=rg [
bs6 9 .lss 8 7] [0,1,7,8,9]
def bip:=rg [
bti 10 8,btp 5 10] [0,1,5,7,8]
def bio:=rg [
bti 11 1,bti 12 0,bti 13 5,btd 14 1 12 13,btg 15 14,oo 16 (.CD false (.t 11) [(.t 15)])] [0,1,5,7,8,16]
@[go_sem] def Tt:Ops:=[
bti 17 5,btp 4 17]
def dV:=rg Tt [4]
def bim:=rg [
bs5 18 .add 8 1,bti 8 18] [0,1,7,8]
def boc:AA:=(.seq biq (.seq (.cond (.t 9) .skip (.exit 0)) (.seq (.block 1 (.seq bip (.seq bio (.cond (.t 16) (.seq dV .ret) .skip)))) bim)))
def bq7:=btb boc.eq_1
def bil:=rg [
oo 4 (.asg (ci (-1)))] [4]
def Y9:AA:=(.seq OQ (.seq (.seq OP (.block 0 (.loop boc))) (.seq bil .ret)))
def jR:AN:=⟨2,[.t 4],Y9⟩
def a_am:=zzy (zzz 6 [bim,.ret,bio,bip,biq,OP,OQ]++[(7,[4]),(5,[4])])
def bq8:=bs9 LK.eq_1 LJ.eq_1 LI.eq_1 LH.eq_1 LG.eq_1 LF.eq_1 LD.eq_1 LC.eq_1
def bq9:=bs9 LB.eq_1 Lx.eq_1 Lw.eq_1 Lv.eq_1 bfc.eq_1 bfb.eq_1 bfa.eq_1 be9.eq_1
def bra:=bs9 Tc.eq_1 KS.eq_1 KR.eq_1 JT.eq_1 JS.eq_1 JV.eq_1 JU.eq_1 LV.eq_1
def brb:=bs9 LU.eq_1 bes.eq_1 ber.eq_1 beq.eq_1 bep.eq_1 KA.eq_1 J9.eq_1 J8.eq_1
def brc:=bs9 J7.eq_1 Ji.eq_1 Jh.eq_1 Ow.eq_1 Ov.eq_1 Ou.eq_1 Ot.eq_1 Oq.eq_1
def brd:=bs9 Oo.eq_1 On.eq_1 Om.eq_1 Ol.eq_1 Oj.eq_1 bjc.eq_1 bjb.eq_1 bja.eq_1
def bre:=bs9 bi9.eq_1 bi8.eq_1 bi7.eq_1 bi5.eq_1 bi4.eq_1 bi3.eq_1 bi2.eq_1 bi1.eq_1
def brf:=bs9 PI.eq_1 PH.eq_1 PG.eq_1 PF.eq_1 PE.eq_1 PD.eq_1 PC.eq_1 PB.eq_1
def brg:=bs9 PA.eq_1 bj6.eq_1 bj5.eq_1 bj4.eq_1 bj3.eq_1 bj2.eq_1 bj1.eq_1 bj0.eq_1
def brh:=bs9 bjz.eq_1 bjy.eq_1 bjx.eq_1 bjw.eq_1 bjv.eq_1 bju.eq_1 bjt.eq_1 bjs.eq_1
def bri:=bs9 bjr.eq_1 apl.eq_1 apk.eq_1 apj.eq_1 aph.eq_1 apg.eq_1 apf.eq_1 ape.eq_1
def brj:=bs9 Pc.eq_1 Pb.eq_1 Pa.eq_1 PZ.eq_1 PY.eq_1 PX.eq_1 PW.eq_1 PV.eq_1
def brk:=bs9 PU.eq_1 PT.eq_1 bku.eq_1 bkt.eq_1 bks.eq_1 bkr.eq_1 bkq.eq_1 bkp.eq_1
def brl:=bs9 bko.eq_1 bkn.eq_1 bkm.eq_1 ap2.eq_1 ap1.eq_1 ap0.eq_1 apz.eq_1 apy.eq_1
def brm:=bs9 apw.eq_1 apv.eq_1 apu.eq_1 bkl.eq_1 bkk.eq_1 bkj.eq_1 bki.eq_1 bkh.eq_1
def brn:=bs9 bkg.eq_1 bkf.eq_1 bke.eq_1 bkd.eq_1 N9.eq_1 N8.eq_1 N7.eq_1 N6.eq_1
def bro:=bs9 N5.eq_1 N4.eq_1 N3.eq_1 N1.eq_1 bhz.eq_1 bhy.eq_1 an6.eq_1 an5.eq_1
def brp:=bs9 an4.eq_1 an3.eq_1 an2.eq_1 Jr.eq_1 Jq.eq_1 Jp.eq_1 NK.eq_1 NJ.eq_1
def brq:=bs9 NI.eq_1 NH.eq_1 NG.eq_1 NF.eq_1 It.eq_1 Is.eq_1 Mn.eq_1 Mm.eq_1
def brr:=bs9 Ml.eq_1 Mk.eq_1 Mj.eq_1 bf8.eq_1 bf7.eq_1 bf6.eq_1 bf5.eq_1 bf4.eq_1
def brs:=bs9 ams.eq_1 Jk.eq_1 Jj.eq_1 N0.eq_1 Nz.eq_1 Ny.eq_1 Nx.eq_1 Nw.eq_1
def brt:=bs9 bhw.eq_1 bhv.eq_1 bhu.eq_1 bht.eq_1 bhx.eq_1 an1.eq_1 an0.eq_1 anz.eq_1
def bru:=bs9 anx.eq_1 anw.eq_1 anv.eq_1 Jd.eq_1 Jc.eq_1 Jb.eq_1 MY.eq_1 MX.eq_1
def brv:=bs9 MW.eq_1 MV.eq_1 MU.eq_1 bf3.eq_1 bf2.eq_1 bf1.eq_1 bf0.eq_1 bfz.eq_1
def brw:=bs9 amr.eq_1 JA.eq_1 I9.eq_1 Pf.eq_1 Pe.eq_1 Pd.eq_1 bkz.eq_1 bky.eq_1
def brx:=bs9 bkx.eq_1 bkw.eq_1 bkv.eq_1 T4.eq_1 L5.eq_1 L3.eq_1 Lz.eq_1 Ly.eq_1
def bry:=bs9 bfg.eq_1 bff.eq_1 bfd.eq_1 Td.eq_1 amc.eq_1 amb.eq_1 ama.eq_1 al9.eq_1
def brz:=bs9 al8.eq_1 bfh.eq_1 Nv.eq_1 Nu.eq_1 Nt.eq_1 Ns.eq_1 Nr.eq_1 Nq.eq_1
def br0:=bs9 bhs.eq_1 anu.eq_1 ant.eq_1 ans.eq_1 anr.eq_1 anq.eq_1 bhp.eq_1 bho.eq_1
def br1:=bs9 bhn.eq_1 anp.eq_1 ano.eq_1 ann.eq_1 anm.eq_1 anl.eq_1 ank.eq_1 KE.eq_1
def br2:=bs9 KD.eq_1 KC.eq_1 bdz.eq_1 bdy.eq_1 bdx.eq_1 bdw.eq_1 TW.eq_1 Mi.eq_1
def br3:=bs9 Mh.eq_1 Mg.eq_1 Mf.eq_1 Me.eq_1 Md.eq_1 Mc.eq_1 Mb.eq_1 Ma.eq_1
def br4:=bs9 MZ.eq_1 JJ.eq_1 JI.eq_1 JH.eq_1 Kn.eq_1 Km.eq_1 Kl.eq_1 Kk.eq_1
def br5:=bs9 Kj.eq_1 Ki.eq_1 Kh.eq_1 Kg.eq_1 Ke.eq_1 Kd.eq_1 bec.eq_1 beb.eq_1
def br6:=bs9 Ii.eq_1 Ih.eq_1 Ig.eq_1 OZ.eq_1 OY.eq_1 OX.eq_1 OW.eq_1 OV.eq_1
def br7:=bs9 OU.eq_1 bix.eq_1 an8.eq_1 Lk.eq_1 Lj.eq_1 Li.eq_1 be4.eq_1 be3.eq_1
def br8:=bs9 be2.eq_1 be1.eq_1 be0.eq_1 MS.eq_1 MR.eq_1 MQ.eq_1 MP.eq_1 MO.eq_1
def br9:=bs9 bfr.eq_1 bfq.eq_1 bfp.eq_1 bfo.eq_1 amp.eq_1 amo.eq_1 amn.eq_1 amm.eq_1
def bsa:=bs9 aml.eq_1 x9.eq_1 KU.eq_1 KT.eq_1 LA.eq_1 K9.eq_1 K8.eq_1 bek.eq_1
def bsb:=bs9 bej.eq_1 bei.eq_1 beh.eq_1 beg.eq_1 Kw.eq_1 Kv.eq_1 Ku.eq_1 Kt.eq_1
def bsc:=bs9 Ks.eq_1 Kr.eq_1 bef.eq_1 bed.eq_1 al1.eq_1 al0.eq_1 JK.eq_1 Nl.eq_1
def bsd:=bs9 r_dz.eq_1 Nk.eq_1 Nj.eq_1 Ni.eq_1 bhg.eq_1 bhf.eq_1 bhe.eq_1 bhd.eq_1
def bse:=bs9 bhc.eq_1 ani.eq_1 anh.eq_1 ang.eq_1 anf.eq_1 Oi.eq_1 Oh.eq_1 Og.eq_1
def bsf:=bs9 Od.eq_1 Oc.eq_1 Ob.eq_1 Oa.eq_1 bi0.eq_1 biy.eq_1 aom.eq_1 aol.eq_1
def bsg:=bs9 aok.eq_1 aoj.eq_1 aoi.eq_1 aoh.eq_1 aog.eq_1 aof.eq_1 aoe.eq_1 aoc.eq_1
def bsh:=bs9 aob.eq_1 aoa.eq_1 an9.eq_1 Nh.eq_1 Ng.eq_1 Nf.eq_1 Nd.eq_1 Nc.eq_1
def bsi:=bs9 Nb.eq_1 Na.eq_1 NZ.eq_1 NY.eq_1 NX.eq_1 bhb.eq_1 bha.eq_1 bg9.eq_1
def bsj:=bs9 bg8.eq_1 bg7.eq_1 bg6.eq_1 bg5.eq_1 bg4.eq_1 bg3.eq_1 bg2.eq_1 KO.eq_1
def bsk:=bs9 KN.eq_1 KM.eq_1 KL.eq_1 KK.eq_1 KJ.eq_1 Mv.eq_1 Mu.eq_1 Mt.eq_1
def bsl:=bs9 bgj.eq_1 bgh.eq_1 bgg.eq_1 bgf.eq_1 bge.eq_1 bgd.eq_1 amx.eq_1 yb.eq_1
def bsm:=bs9 sc.eq_1 sb.eq_1 sa.eq_1 MN.eq_1 MM.eq_1 ML.eq_1 MK.eq_1 MJ.eq_1
def bsn:=bs9 bfn.eq_1 bfm.eq_1 bfl.eq_1 bfk.eq_1 amk.eq_1 amj.eq_1 x8.eq_1 xz.eq_1
def bso:=bs9 xy.eq_1 xx.eq_1 Ie.eq_1 Ic.eq_1 K7.eq_1 K6.eq_1 K5.eq_1 K4.eq_1
def bsp:=bs9 K3.eq_1 K2.eq_1 K1.eq_1 K0.eq_1 Kz.eq_1 Ky.eq_1 Ib.eq_1 Ia.eq_1
def bsq:=bs9 Iy.eq_1 Iw.eq_1 Iv.eq_1 Iu.eq_1 Ms.eq_1 Mr.eq_1 Mq.eq_1 Mp.eq_1
def bsr:=bs9 Mo.eq_1 bgc.eq_1 bgb.eq_1 bga.eq_1 bf9.eq_1 amw.eq_1 amv.eq_1 amu.eq_1
def bss:=bs9 amt.eq_1 Lu.eq_1 Lt.eq_1 Ls.eq_1 Lr.eq_1 Lq.eq_1 Lp.eq_1 Lo.eq_1
def bst:=bs9 Ln.eq_1 Lm.eq_1 Ll.eq_1 be8.eq_1 be7.eq_1 be6.eq_1 be5.eq_1 al7.eq_1
def bsu:=bs9 al6.eq_1 al5.eq_1 al4.eq_1 I8.eq_1 I7.eq_1 I6.eq_1 I5.eq_1 I4.eq_1
def bsv:=bs9 Il.eq_1 Ik.eq_1 Ij.eq_1 LQ.eq_1 LP.eq_1 LO.eq_1 LN.eq_1 LM.eq_1
def bsw:=bs9 LL.eq_1 beo.eq_1 bem.eq_1 al3.eq_1 al2.eq_1 Lg.eq_1 Lf.eq_1 bew.eq_1
def bsx:=bs9 bev.eq_1 beu.eq_1 bet.eq_1 IZ.eq_1 IY.eq_1 JE.eq_1 JD.eq_1 JC.eq_1
def bsy:=bs9 JB.eq_1 MT.eq_1 bfy.eq_1 bfx.eq_1 bfw.eq_1 bfv.eq_1 bfu.eq_1 bft.eq_1
def bsz:=bs9 bfs.eq_1 amq.eq_1 Ja.eq_1 JZ.eq_1 O9.eq_1 r_dt.eq_1 O8.eq_1 O7.eq_1
def bs0:=bs9 O6.eq_1 O5.eq_1 O4.eq_1 bjq.eq_1 apd.eq_1 apc.eq_1 apa.eq_1 ao9.eq_1
def bs1:=bs9 ao8.eq_1 ao7.eq_1 ao6.eq_1 ao5.eq_1 ao3.eq_1 yo.eq_1 yn.eq_1 JG.eq_1
def bs2:=bs9 JF.eq_1 OQ.eq_1 OP.eq_1 biq.eq_1 bip.eq_1 bio.eq_1 bim.eq_1 bil.eq_1
attribute [go_sem] bp8 bp9 bqa bqb bqc bqd bqe bqf bqg bqh bqi bqj bqk bql bqm bqn bqo bqp bqq bqr bqs bqt bqu bqv bqw bqx bqy bqz bq0 bq1 bq2 bq3 bq4 bq5 bq6 bq7 bq8 bq9 bra brb brc brd bre brf brg brh bri brj brk brl brm brn bro brp brq brr brs brt bru brv brw brx bry brz br0 br1 br2 br3 br4 br5 br6 br7 br8 br9 bsa bsb bsc bsd bse bsf bsg bsh bsi bsj bsk bsl bsm bsn bso bsp bsq bsr bss bst bsu bsv bsw bsx bsy bsz bs0 bs1 bs2
