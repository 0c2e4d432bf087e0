import Derived.Test.YtpnhljhciibfnaaGreatDoorL10
import Derived.Test.YtpnhljhciibfnaaGreatDoorChecked
import Derived.Test.YtpnhljhciibfnaaGreatDoorCodeA
namespace Go.Proofs.YtpnhljhciibfnaaGreatDoor
set_option linter.defProp false
open Go.Ev Go
variable {X:Kx} {K:List Kf} {s:St}
def OV:=rg [
oo 4 (.asg (.c (.str []))),byt 5 false] [0,1]
def OU:=rg [
by8 6 0,by8 7 1,byx 8 Th [(.t 6),(.t 7)],bza 9 8] [0,1,9]
def OT:=rg [
by8 10 0,bze 4 10,byt 5 false] [4,5]
def OS:=rg [
by8 11 0,by8 12 1,by5 13 true 12,oo 14 (.CK (.t 11) (some (.t 13)) none),bze 4 14,byt 5 true] [4,5]
def XQ:AD:=(.seq OV (.seq OU (.cond (.t 9) (.seq OT .ret) (.seq OS .ret))))
def kM:AP:=⟨2,[.t 4,.t 5],XQ⟩
def a_b6:=zzy (zzz 3 [OS,OT,OU,OV])
def KR:=rg [
oo 4 (.asg (.c (.str []))),byt 5 false] [0,1]
def KQ:=rg [
by8 6 0,by8 7 1,byx 8 Tu [(.t 6),(.t 7)],bzf 9 8 0,bzf 10 8 1,bze 4 9,bze 5 10] [4,5]
def Z7:AD:=(.seq KR (.seq KQ .ret))
def iU:AP:=⟨2,[.t 4,.t 5],Z7⟩
def a_dq:=zzy (zzz 1 [KQ,KR])
def O7:=rg [
byu 4 0,byu 5 0] [0,1]
def O6:=rg [
by8 19 1,oo 20 (.DT true [(.t 19),(ci 0)]),oo 21 (.DT false [(.t 20),(ci 18)]),bze 1 21] [0,1]
def O5:=rg [
by8 23 0,byx 24 TX [(.t 23),(.c (.str [45]))],by8 22 24,bzf 25 22 0,bzf 26 22 1,bze 6 25,bze 7 26] [1,6,7]
def O4:=rg [
by8 28 6,byx 29 TM [(.t 28),(.c (.str [46]))],by8 27 29,bzf 30 27 0,bzf 31 27 1,bzf 32 27 2,bze 8 30,bze 9 31,bze 10 32] [1,7,8,9,10]
def O3:=rg [
by8 34 8,byx 35 Rg [(.t 34)],bza 36 35,by8 37 36,by0 38 37 false 10,by0 39 37 false 38,by0 40 39 true 9,og 41 39 true (.call false Rg [(.t 40)]),og 42 39 true (.un .not (.t 41)),og 43 37 false (.pick (.t 39) (.t 42) (.c (.bool false))),bzc 44 37 43,bze 33 44] [1,7,8,9,33]
def O2:=rg [
byu 4 0,byu 5 2] [4,5]
def O1:=rg [
by8 46 9,by5 47 true 46,by8 48 1,byw 49 .gtr 47 48,bze 45 49] [1,7,8,9,45]
def O0:=rg [
byu 4 0,byu 5 4] [4,5]
def Oz:=rg [
byu 11 0] [1,7,8,9,11]
def Oy:=rg [
by8 50 8,by8 51 9,byw 52 .add 50 51,by8 53 1,by8 54 9,by5 55 true 54,byw 56 .sub 53 55,byx 57 TF [(.c (.str [48])),(.t 56)],byw 58 .add 52 57,oo 59 (.s2b false (.t 58)),by5 60 false 59,oo 61 (.mv (ci 0))] [7,11,59,60,61]
def aqw:=rg [
byw 62 .lss 61 60] [7,11,59,60,61,62]
def aqv:=rg [
by3 63 1 59 61,by6 64 63,bze 13 64] [7,11,13,59,60,61]
def aqu:=rg [
by8 65 13,oo 66 (.bin .sub (.t 65) (.c (.int .u8 48))),oo 67 (.Aj .i64 (.t 66)),bze 14 67] [7,11,14,59,60,61]
def aqt:=rg [
by8 68 7] [7,11,14,59,60,61,68]
def aqs:=rg [
by8 69 14,oo 70 (.un .neg (.t 69)),bze 14 70] [7,11,14,59,60,61]
def aqr:=rg [
by8 72 11,byx 73 Tf [(.t 72),(ci 10)],by8 71 73,bzf 74 71 0,bzf 75 71 1,bze 15 74,bze 16 75] [7,14,15,16,59,60,61]
def aqq:=rg [
by8 77 15,by8 78 14,byx 79 TR [(.t 77),(.t 78)],by8 76 79,bzf 80 76 0,bzf 81 76 1,bze 17 80,bze 18 81] [7,16,17,18,59,60,61]
def aqp:=rg [
by8 82 16,bza 83 82,by8 84 83,by0 85 84 false 18,og 86 84 false (.un .not (.t 85)),bzc 87 84 86] [7,17,59,60,61,87]
def aqo:=rg [
byu 4 0,byu 5 4] [4,5]
def aqn:=rg [
by8 88 17,bze 11 88] [7,11,59,60,61]
def aqm:=rg [
byv 89 .add 61 1,by8 61 89] [7,11,59,60,61]
def avz:AD:=(.seq aqw (.seq (.cond (.t 62) .skip (.exit 1)) (.seq (.block 2 (.seq aqv (.seq aqu (.seq (.seq aqt (.cond (.t 68) aqs .skip)) (.seq aqr (.seq aqq (.seq (.seq aqp (.cond (.t 87) (.seq aqo .ret) .skip)) aqn))))))) aqm)))
def abi:=by1 avz.eq_1
def aql:=rg [
by8 90 11,bze 4 90,byu 5 0] [4,5]
def G4:AD:=(.seq O7 (.seq O6 (.seq O5 (.seq O4 (.seq (.block 0 (.seq O3 (.cond (.t 33) (.seq O2 .ret) (.seq O1 (.cond (.t 45) (.seq O0 .ret) .skip))))) (.seq Oz (.seq (.seq Oy (.block 1 (.loop avz))) (.seq aql .ret))))))))
def kQ:AP:=⟨2,[.t 4,.t 5],G4⟩
def a_ax:=zzy (zzz 20 [aqm,aqn,aqo,aqp,aqq,aqr,aqs,aqt,aqu,aqv,aqw,Oy,Oz,O0,O1,O2,O3,O4,O5,O6,O7]++[(21,[4,5])])
def NU:=rg [
byu 4 0,byt 5 false] [0,1]
def NT:=rg [
by8 11 0,by9 12 11,byy 13 8 12,by6 14 13,by8 15 1,byx 16 Hz [(.t 14),(.t 15)],by8 10 16,bzf 17 10 0,bzf 18 10 1,bze 6 17,bze 7 18] [0,6,7]
def NS:=rg [
by8 19 7,bza 20 19] [0,6,20]
def NR:=rg [
byu 4 0,byt 5 false] [4,5]
@[go_sem] def a41:Ops:=[
by8 22 6,oo 23 (.b2s (.t 22)),by8 24 0,by9 25 24,byy 26 0 25,byy 27 5 26,by6 28 27,byx 29 Tz [(.t 23),(.t 28)],by8 21 29,bzf 30 21 0,bzf 31 21 1,bze 8 30,bze 9 31]
def a42:List (Nat×Nat):=[(0,2),(1,2),(0,3),(1,3),(0,4),(1,4),(0,5),(1,5),(0,6),(1,6),(9,10),(10,11)]
def VV:AD:= .region a41 a42 [0,8,9]
@[go_sem] theorem r_bo_4_u:Gu X K s VV a42 a41 [0,8,9]:=Ab _ _ _ _
def NQ:=rg [
by8 32 0,by8 33 0,by9 34 33,byy 35 9 34,by6 36 35,by8 37 36,by0 38 37 true 9,og 39 37 true (.bin .eql (.t 38) (ci 0)),bzb 40 37 39,by9 41 32,byy 42 9 41,bzd 1 42 40] [8]
def NP:=rg [
by8 43 8,bze 4 43,byt 5 true] [4,5]
def XO:AD:=(.seq NU (.seq NT (.seq NS (.cond (.t 20) (.seq NR .ret) (.seq VV (.seq NQ (.seq NP .ret)))))))
def kC:AP:=⟨2,[.t 4,.t 5],XO⟩
def a_bo:=zzy (zzz 6 [NP,NQ,.ret,NR,NS,NT,NU]++[(4,[0,8,9])])
def Lh:=rg [
oo 4 (.asg (.c .AB)),oo 5 (.asg (.c .AB)),byt 6 false] [0,1]
def Lg:=rg [
by8 10 1,oo 11 (.BO false (.t 10) [(ci 1)]),by8 9 11,bzf 12 9 0,bzf 13 9 1,bze 4 12,bze 7 13] [0,1,4,7]
def Lf:=rg [
by8 15 1,oo 16 (.BO false (.t 15) [(ci 2)]),by8 14 16,bzf 17 14 0,bzf 18 14 1,bze 5 17,bze 8 18] [0,4,5,7,8]
def Ld:=rg [
by8 19 0,by8 20 0,by9 21 20,byy 22 9 21,by6 23 22,by8 24 23,by0 25 24 true 7,by0 26 24 true 8,og 27 24 true (.eqn false .bool (.t 25) (.t 26)),bzb 28 24 27,by9 29 19,byy 30 9 29,bzd 1 30 28] [4,5,7]
def Lc:=rg [
by8 31 4,by8 32 5,by8 33 7,bze 4 31,bze 5 32,bze 6 33] [4,5,6]
def aJ:AD:=(.seq Lh (.seq Lg (.seq Lf (.seq Ld (.seq Lc .ret)))))
def jK:AP:=⟨2,[.t 4,.t 5,.t 6],aJ⟩
def a_ct:=zzy (zzz 4 [Lc,Ld,Lf,Lg,Lh])
def J7:=rg [
oo 4 (.asg (.c .AB)),byt 5 false] [0,1]
def J6:=rg [
by8 6 0,by9 7 6,byy 8 8 7,by6 9 8,by8 10 1,byx 11 Hz [(.t 9),(.t 10)],bzf 12 11 0,bzf 13 11 1,bze 4 12,bze 5 13] [4,5]
def nW:AD:=(.seq J7 (.seq J6 .ret))
def iM:AP:=⟨2,[.t 4,.t 5],nW⟩
def a_dz:=zzy (zzz 1 [J6,J7])
def Lo:=rg [
byu 4 0,byu 5 0,byt 6 false] [0,1]
def Ln:=rg [
by8 10 1,oo 11 (.BO false (.t 10) [(ci 1)]),by8 9 11,bzf 12 9 0,bzf 13 9 1,bze 4 12,bze 7 13] [0,1,4,7]
def Lm:=rg [
by8 15 1,oo 16 (.BO false (.t 15) [(ci 2)]),by8 14 16,bzf 17 14 0,bzf 18 14 1,bze 5 17,bze 8 18] [0,4,5,7,8]
def Ll:=rg [
by8 19 0,by8 20 0,by9 21 20,byy 22 9 21,by6 23 22,by8 24 23,by0 25 24 true 7,by0 26 24 true 8,og 27 24 true (.eqn false .bool (.t 25) (.t 26)),bzb 28 24 27,by9 29 19,byy 30 9 29,bzd 1 30 28] [4,5,7]
def Lk:=rg [
by8 31 4,by8 32 5,by8 33 7,bze 4 31,bze 5 32,bze 6 33] [4,5,6]
def aK:AD:=(.seq Lo (.seq Ln (.seq Lm (.seq Ll (.seq Lk .ret)))))
def jM:AP:=⟨2,[.t 4,.t 5,.t 6],aK⟩
def a_cq:=zzy (zzz 4 [Lk,Ll,Lm,Ln,Lo])
def I6:=rg [
byu 2 0] [0]
def I5:=rg [
by8 3 0,oo 4 (.bin .shr (.t 3) (.c (.int .u64 1))),oo 5 (.Aj .i64 (.t 4)),by8 6 0,oo 7 (.bin .and (.t 6) (.c (.int .u64 1))),oo 8 (.Aj .i64 (.t 7)),oo 9 (.un .neg (.t 8)),byw 10 .xor 5 9,bze 2 10] [2]
def Zj:AD:=(.seq I6 (.seq I5 .ret))
def gM:AP:=⟨1,[.t 2],Zj⟩
def a_ft:=zzy (zzz 1 [I5,I6])
def I2:=rg [
byu 4 0,byt 5 false] [0,1]
def Iz:=rg [
by8 9 0,by8 10 1,byx 11 H4 [(.t 9),(.t 10),(ci 0)],by8 8 11,bzf 12 8 0,bzf 13 8 1,oo 6 (.alloc [(.int .i64 0),(.int .i64 0),(.int .u64 0),.AB,(.int .i64 0)]),bzd 5 6 12,bze 7 13] [6,7]
def Iy:=rg [
byy 14 2 6,by6 15 14,byx 16 TJ [(.t 15)],by8 17 7,bze 4 16,bze 5 17] [4,5]
def Zh:AD:=(.seq I2 (.seq Iz (.seq Iy .ret)))
def gJ:AP:=⟨2,[.t 4,.t 5],Zh⟩
def a_fv:=zzy (zzz 2 [Iy,Iz,I2])
def KP:=rg [
byu 4 0,byt 5 false] [0,1]
def KO:=rg [
by8 6 0,by9 7 6,byy 8 8 7,by6 9 8,by8 10 1,byx 11 TG [(.t 9),(.t 10)],bzf 12 11 0,bzf 13 11 1,bze 4 12,bze 5 13] [4,5]
def nX:AD:=(.seq KP (.seq KO .ret))
def iT:AP:=⟨2,[.t 4,.t 5],nX⟩
def a_dr:=zzy (zzz 1 [KO,KP])
def Qb:=rg [
byu 4 0] [0,1]
def Qa:=rg [
by8 7 0,by9 8 7,byy 9 0 8,byy 10 0 9,by6 11 10,byx 12 HX [(.t 11)]] [0,1,12]
def QZ:=rg [
byv 14 .eql 12 2,bze 13 14] [0,1,12,13]
def QY:=rg [
byv 16 .eql 12 7,bze 15 16] [0,1,12,15]
def QX:=rg [
byv 18 .eql 12 4,bze 17 18] [0,1,12,17]
def QW:=rg [
byv 20 .eql 12 5,bze 19 20] [0,1,12,19]
def QV:=rg [
byv 22 .eql 12 6,bze 21 22] [0,1,12,21]
def QU:=rg [
byv 24 .eql 12 8,bze 23 24] [0,1,12,23]
def QT:=rg [
byv 26 .eql 12 9,bze 25 26] [0,1,25]
def QS:=rg [
by8 28 1,by8 29 1,by8 30 0,byx 31 Fx [(.t 30),(ci 3)],by8 27 31,bzf 32 27 0,bzf 33 27 1,by9 34 28,byy 35 14 34,bzd 1 35 32,by9 36 29,byy 37 13 36,bzd 1 37 33] [0,1]
def bnw:=rg [
by8 39 1,by8 40 1,by8 41 1,by8 42 0,by8 43 0,oo 44 (.mkF Fx [(.t 43)] []),byx 45 HS [(.t 42),(.t 44)],by8 38 45,bzf 46 38 0,bzf 47 38 1,bzf 48 38 2,by9 49 39,byy 50 3 49,byy 51 1 50,bzd 1 51 46,by9 52 40,byy 53 8 52,byy 54 1 53,bzd 1 54 47,by9 55 41,byy 56 2 55,bzd 1 56 48] []
def bnv:=rg [
by8 58 1,by8 59 1,by8 60 1,by8 61 0,by8 62 0,oo 63 (.mkF Rm [(.t 62)] []),byx 64 Tg [(.t 61),(.t 63)],by8 57 64,bzf 65 57 0,bzf 66 57 1,bzf 67 57 2,by9 68 58,byy 69 3 68,byy 70 3 69,bzd 1 70 65,by9 71 59,byy 72 8 71,byy 73 3 72,bzd 1 73 66,by9 74 60,byy 75 2 74,bzd 1 75 67] [0,1]
def bnu:=rg [
by8 77 1,by8 78 1,by8 79 0,byx 80 Fx [(.t 79),(ci 3)],by8 76 80,bzf 81 76 0,bzf 82 76 1,by9 83 77,byy 84 14 83,bzd 1 84 81,by9 85 78,byy 86 13 85,bzd 1 86 82] []
def bnt:=rg [
by8 88 0,by9 89 88,byy 90 8 89,by6 91 90,byx 92 Ts [(.t 91),(ci 1)],by8 87 92,bzf 93 87 0,bzf 94 87 1,bze 5 93,bze 6 94] [0,1,5,6]
def bns:=rg [
by8 95 6,byv 96 .neq 95 0] [0,1,5,6,96]
def bnr:=rg [
by8 97 6,bze 4 97] [4]
def bnq:=rg [
by8 98 0,by8 99 5,by5 100 false 99,byv 101 .leq 100 1,by9 102 98,byy 103 9 102,bzd 1 103 101] [0,1,5]
def bnp:=rg [
by8 104 5,by5 105 false 104,byv 106 .eql 105 1] [0,1,5,106]
def bno:=rg [
by8 107 0,by8 108 5,oo 109 (.C6 1 (.t 108) (ci 0)),by6 110 109,oo 111 (.bin .leq (.t 110) (.c (.int .u64 262144))),by9 112 107,byy 113 9 112,bzd 1 113 111] [1,5]
def bnn:=rg [
by8 114 1,by8 115 1,by8 116 5,oo 117 (.C6 1 (.t 116) (ci 0)),by6 118 117,oo 119 (.Aj .i64 (.t 118)),by9 120 114,byy 121 14 120,bzd 1 121 119,by9 122 115,byy 123 13 122,ow (.store 1 (.t 123) (.c (.bool true)))] []
def bnm:=rg [
by8 125 1,by8 126 1,by8 127 1,by8 128 0,by8 129 0,oo 130 (.mkF HW [(.t 129)] []),byx 131 HS [(.t 128),(.t 130)],by8 124 131,bzf 132 124 0,bzf 133 124 1,bzf 134 124 2,by9 135 125,byy 136 3 135,byy 137 1 136,bzd 1 137 132,by9 138 126,byy 139 8 138,byy 140 1 139,bzd 1 140 133,by9 141 127,byy 142 2 141,bzd 1 142 134] [0,1]
def bnl:=rg [
by8 144 1,by8 145 1,by8 146 0,byx 147 HW [(.t 146),(ci 3)],by8 143 147,bzf 148 143 0,bzf 149 143 1,by9 150 144,byy 151 14 150,bzd 1 151 148,by9 152 145,byy 153 13 152,bzd 1 153 149] []
def bnk:=rg [
by8 155 1,by8 156 1,by8 157 0,byx 158 Fx [(.t 157),(ci 1)],by8 154 158,bzf 159 154 0,bzf 160 154 1,by9 161 155,byy 162 14 161,bzd 1 162 159,by9 163 156,byy 164 13 163,bzd 1 164 160] []
def bnj:=rg [
by8 166 1,by8 167 1,by8 168 1,by8 169 0,by8 170 0,oo 171 (.mkF Fx [(.t 170)] []),byx 172 HS [(.t 169),(.t 171)],by8 165 172,bzf 173 165 0,bzf 174 165 1,bzf 175 165 2,by9 176 166,byy 177 3 176,byy 178 1 177,bzd 1 178 173,by9 179 167,byy 180 8 179,byy 181 1 180,bzd 1 181 174,by9 182 168,byy 183 2 182,bzd 1 183 175] [0,1]
@[go_sem] def agh:Ops:=[
by8 184 1,by8 185 1,by8 186 0,by8 187 1,by9 188 187,byy 189 2 188,by6 190 189,byx 191 HU [(.t 186),(ci 3),(.t 190)],by8 192 0,by8 193 1,by9 194 193,byy 195 2 194,by6 196 195,byx 197 HU [(.t 192),(ci 4),(.t 196)],by9 198 184,byy 199 3 198,byy 200 2 199,bzd 1 200 191,by9 201 185,byy 202 8 201,byy 203 2 202,bzd 1 203 197]
def agi:List (Nat×Nat):=[(0,1),(0,2),(1,2),(0,3),(1,3),(2,3),(0,4),(1,4),(2,4),(0,5),(1,5),(2,5),(0,6),(1,6),(2,6),(0,7),(1,7),(0,8),(1,8),(2,8),(3,8),(4,8),(5,8),(6,8),(7,8),(0,9),(1,9),(2,9),(3,9),(4,9),(5,9),(6,9),(7,9),(8,9),(0,10),(1,10),(2,10),(3,10),(4,10),(5,10),(6,10),(7,10),(8,10),(0,11),(1,11),(2,11),(3,11),(4,11),(5,11),(6,11),(7,11),(8,11),(0,12),(1,12),(2,12),(3,12),(4,12),(5,12),(6,12),(7,12),(8,12),(0,13),(1,13),(1,14),(1,15),(1,16),(1,17)]
def bni:AD:= .region agh agi []
@[go_sem] theorem r_ai_24_u:Gu X K s bni agi agh []:=Ab _ _ _ _
def bnh:=rg [
byu 4 0] [4]
def F9:AD:=(.seq Qb (.seq (.seq Qa (.block 0 (.seq (.block 7 (.seq (.block 6 (.seq (.block 5 (.seq (.block 4 (.seq (.block 3 (.seq (.block 2 (.seq (.block 1 (.seq (.seq (.seq QZ (.cond (.t 13) (.exit 1) .skip)) (.seq (.seq QY (.cond (.t 15) (.exit 2) .skip)) (.seq (.seq QX (.cond (.t 17) (.exit 3) .skip)) (.seq (.seq QW (.cond (.t 19) (.exit 4) .skip)) (.seq (.seq QV (.cond (.t 21) (.exit 5) .skip)) (.seq (.seq QU (.cond (.t 23) (.exit 6) .skip)) (.seq QT (.cond (.t 25) (.exit 7) .skip)))))))) (.exit 0))) QS)) (.seq bnw (.exit 0)))) (.seq (.seq bnv bnu) (.exit 0)))) (.seq (.seq bnt (.seq (.seq bns (.cond (.t 96) (.seq bnr .ret) .skip)) (.seq bnq (.seq bnp (.cond (.t 106) (.seq bno bnn) .skip))))) (.exit 0)))) (.seq (.seq bnm bnl) (.exit 0)))) (.seq bnk (.exit 0)))) (.seq (.seq bnj bni) (.exit 0))))) (.seq bnh .ret)))
def lB:AP:=⟨2,[.t 4],F9⟩
def a_ai:=zzy (zzz 25 [bnh,.ret,bnj,bnk,bnl,bnm,bnn,bno,bnp,bnq,bnr,bns,bnt,bnu,bnv,bnw,QS,QT,QU,QV,QW,QX,QY,QZ,Qa,Qb]++[(24,[])])
def QR:=rg [
oo 2 (.box 8 (.t 0)),oo 4 (.alloc [(.int .i64 0),(.bool false),(.bool false),(.bool false),(.int .i64 0),(.int .i64 0),.AB,.AB,(.bool false),(.int .i64 0),(.int .i64 0),.AB,.AB,(.bool false),(.int .i64 0)]),byu 5 0] [1,2,4]
def QQ:=rg [
by8 19 1,byx 20 Ry [(.t 19)],by8 18 20,bzf 21 18 0,bzf 22 18 1,bze 6 21,bze 7 22] [2,4,6,7]
def QP:=rg [
by8 23 7,byv 24 .neq 23 0] [2,4,6,7,24]
def QO:=rg [
oo 25 (.build [(.int .i64 0),(.bool false),(.bool false),(.bool false),(.int .i64 0),(.int .i64 0),.AB,.AB,(.bool false),(.int .i64 0),(.int .i64 0),.AB,.AB,(.bool false),(.int .i64 0)] []),by8 26 7,bzd 15 4 25,bze 5 26] [4,5]
def QN:=rg [
by8 28 6,byx 29 Hy [(.t 28),(ci 1)],by8 27 29,bzf 30 27 0,bzf 31 27 1,bze 8 30,bze 9 31] [2,4,6,8]
def QM:=rg [
by8 33 6,byx 34 Hy [(.t 33),(ci 10)],by8 32 34,bzf 35 32 0,bzf 36 32 1,bze 10 35,bze 11 36] [2,4,6,8,10]
def QL:=rg [
by8 37 8,oo 38 (.bin .gtr (.t 37) (.c (.int .u64 262144)))] [2,4,6,8,10,38]
def QK:=rg [
oo 39 (.build [(.int .i64 0),(.bool false),(.bool false),(.bool false),(.int .i64 0),(.int .i64 0),.AB,.AB,(.bool false),(.int .i64 0),(.int .i64 0),.AB,.AB,(.bool false),(.int .i64 0)] []),bzd 15 4 39,byu 5 2] [4,5]
def QJ:=rg [
by8 40 8,oo 41 (.Aj .i64 (.t 40)),by8 42 10,oo 43 (.bin .neq (.t 42) (.c (.int .u64 0))),oo 44 (.build [(.int .i64 0),(.bool false),(.bool false),(.bool false),(.int .i64 0),(.int .i64 0),.AB,.AB,(.bool false),(.int .i64 0),(.int .i64 0),.AB,.AB,(.bool false),(.int .i64 0)] [(0,1,(.t 41)),(1,1,(.t 43))]),oo 12 (.alloc [(.int .i64 0),(.bool false),(.bool false),(.bool false),(.int .i64 0),(.int .i64 0),.AB,.AB,(.bool false),(.int .i64 0),(.int .i64 0),.AB,.AB,(.bool false),(.int .i64 0)]),bzd 15 12 44] [2,4,6,12]
def QI:=rg [
byy 45 0 2,by6 46 45,byx 47 HX [(.t 46)],bze 13 47] [2,4,6,12,13]
def bng:=rg [
by8 49 6,by8 50 13,byx 51 Hz [(.t 49),(.t 50)],by8 48 51,bzf 52 48 0,bzf 53 48 1,bze 14 52,bze 15 53] [2,4,12,13,14,15]
def bnf:=rg [
by8 54 13,byv 55 .eql 54 0,by8 56 55,by0 57 56 false 15,og 58 56 false (.un .not (.t 57)),bzc 59 56 58] [2,4,12,14,59]
def bnd:=rg [
by7 60 15 12,bzd 15 4 60,byu 5 0] [4,5]
def bnc:=rg [
by7 61 8 2,oo 62 (.build [(.int .i64 0),.AB,.AB,(.int .i64 0),(.int .i64 0),(.int .i64 0),(.int .i64 0),(.int .i64 0),.AB,(.bool false)] [(0,8,(.t 61)),(9,1,(.c (.bool true)))]),oo 63 (.box 10 (.t 62)),bze 16 63] [2,4,12,14,16]
def bnb:=rg [
by8 65 16,by8 66 14,byx 67 Ry [(.t 66)],by8 64 67,bzf 68 64 0,bzf 69 64 1,by9 70 65,byy 71 8 70,bzd 1 71 68,bze 7 69] [2,4,7,12,16]
def bna:=rg [
by8 72 7,byv 73 .neq 72 0] [2,4,7,12,16,73]
def bm9:=rg [
oo 74 (.build [(.int .i64 0),(.bool false),(.bool false),(.bool false),(.int .i64 0),(.int .i64 0),.AB,.AB,(.bool false),(.int .i64 0),(.int .i64 0),.AB,.AB,(.bool false),(.int .i64 0)] []),by8 75 7,bzd 15 4 74,bze 5 75] [4,5]
def bm8:=rg [
by8 76 16,byx 77 FW [(.t 76),(.t 12)],bze 17 77] [2,4,12,16,17]
def bm7:=rg [
by8 78 17,byv 79 .neq 78 0] [2,4,12,16,17,79]
def bm6:=rg [
oo 80 (.build [(.int .i64 0),(.bool false),(.bool false),(.bool false),(.int .i64 0),(.int .i64 0),.AB,.AB,(.bool false),(.int .i64 0),(.int .i64 0),.AB,.AB,(.bool false),(.int .i64 0)] []),by8 81 17,bzd 15 4 80,bze 5 81] [4,5]
@[go_sem] def af3:Ops:=[
by8 82 16,by9 83 82,byy 84 9 83,by6 85 84,bza 86 85,by8 87 86,og 88 87 false (.AH 2 (.t 12)),og 89 87 false (.load none (.t 88)),by0 90 87 false 89,og 91 90 true (.load (some 8) (.t 2)),og 92 90 true (.call false Re [(.t 91)]),og 93 90 true (.AH 3 (.t 12)),og 94 90 true (.load (some 5) (.t 93)),og 95 90 true (.call false Gz [(.t 92),(.t 94)]),og 96 90 true (.bin .neq (.t 95) (ci 0)),by0 97 90 true 96,og 98 97 false (.load (some 8) (.t 2)),og 99 97 false (.call false Re [(.t 98)]),og 100 97 false (.AH 8 (.t 12)),og 101 97 false (.load (some 5) (.t 100)),og 102 97 false (.call false Gz [(.t 99),(.t 101)]),og 103 97 false (.bin .neq (.t 102) (ci 0)),og 104 90 true (.pick (.t 97) (.c (.bool true)) (.t 103)),og 105 87 false (.pick (.t 90) (.t 104) (.c (.bool false))),bzc 106 87 105]
def af4:List (Nat×Nat):=[(9,11),(10,11),(9,12),(10,12),(16,18),(17,18),(16,19),(17,19)]
def bm5:AD:= .region af3 af4 [4,12,106]
@[go_sem] theorem r_aj_20_u:Gu X K s bm5 af4 af3 [4,12,106]:=Ab _ _ _ _
def bm4:=rg [
oo 107 (.build [(.int .i64 0),(.bool false),(.bool false),(.bool false),(.int .i64 0),(.int .i64 0),.AB,.AB,(.bool false),(.int .i64 0),(.int .i64 0),.AB,.AB,(.bool false),(.int .i64 0)] []),bzd 15 4 107,byu 5 2] [4,5]
def bm3:=rg [
byy 108 13 12,by6 109 108,bza 110 109] [4,12,110]
def bm2:=rg [
byy 111 14 12,ow (.store 1 (.t 111) (ci 0))] [4,12]
def bm1:=rg [
by7 112 15 12,bzd 15 4 112,byu 5 0] [4,5]
def EP:AD:=(.seq QR (.seq QQ (.seq QP (.cond (.t 24) (.seq QO .ret) (.seq QN (.seq QM (.seq QL (.cond (.t 38) (.seq QK .ret) (.seq QJ (.seq QI (.seq bng (.seq bnf (.cond (.t 59) (.seq bnd .ret) (.seq bnc (.seq (.seq bnb (.seq bna (.cond (.t 73) (.seq bm9 .ret) .skip))) (.seq (.seq bm8 (.seq bm7 (.cond (.t 79) (.seq bm6 .ret) .skip))) (.seq bm5 (.cond (.t 106) (.seq bm4 .ret) (.seq (.seq bm3 (.cond (.t 110) bm2 .skip)) (.seq bm1 .ret))))))))))))))))))))
def lA:AP:=⟨2,[.cell 4 (some 15),.t 5],EP⟩
def a_aj:=zzy (zzz 24 [bm1,bm2,bm3,bm4,.ret,bm6,bm7,bm8,bm9,bna,bnb,bnc,bnd,bnf,bng,QI,QJ,QK,QL,QM,QN,QO,QP,QQ,QR]++[(20,[4,12,106])])
def JE:=rg [
oo 4 (.asg (.c .AB)),byt 5 false] [0,1]
def JD:=rg [
by8 9 0,by8 10 1,byx 11 H4 [(.t 9),(.t 10),(ci 2)],by8 8 11,bzf 12 8 0,bzf 13 8 1,oo 6 (.alloc [(.int .i64 0),(.int .i64 0),(.int .u64 0),.AB,(.int .i64 0)]),bzd 5 6 12,bze 7 13] [6,7]
def JC:=rg [
byy 14 3 6,by6 15 14,byx 16 HV [(.t 15)],byx 17 V4 [(.t 16)],by8 18 7,bze 4 17,bze 5 18] [4,5]
def XH:AD:=(.seq JE (.seq JD (.seq JC .ret)))
def gP:AP:=⟨2,[.t 4,.t 5],XH⟩
def a_fo:=zzy (zzz 2 [JC,JD,JE])
def Nb:=rg [
oo 4 (.asg (.c .AB)),byu 5 0] [0,1]
def Na:=rg [
oo 6 (.asg (.c .AB))] [0,1,6]
def NZ:=rg [
by8 13 0,by5 14 false 13,oo 15 (.mv (ci 0))] [1,6,13,14,15]
def bji:=rg [
byw 16 .lss 15 14] [1,6,13,14,15,16]
def bjh:=rg [
by3 17 5 13 15,by7 18 5 17,oo 8 (.alloc [(.int .i64 0),(.int .i64 0),(.int .u64 0),.AB,(.int .i64 0)]),bzd 5 8 18] [1,6,8,13,14,15]
def bjg:=rg [
byy 20 0 8,by6 21 20,by8 22 1,byw 23 .neq 21 22,bze 19 23] [1,6,8,13,14,15,19]
def bjf:=rg [
byy 25 1 8,by6 26 25,byv 27 .eql 26 0,bze 24 27] [1,6,8,13,14,15,24]
def bje:=rg [
by8 28 6,byy 29 2 8,by6 30 29,oo 31 (.lit false 1 1 (.int .u64 0) [(0,(.t 30))]),oo 32 (.append 1 8 (.t 28) (.t 31)),bze 6 32] [1,6,13,14,15]
def bjd:=rg [
byy 34 1 8,by6 35 34,byv 36 .eql 35 2,bze 33 36] [1,6,8,13,14,15,33]
def bjc:=rg [
byu 9 0] [1,6,8,9,13,14,15]
def ap3:=rg [
by8 37 9,byy 38 3 8,by6 39 38,by5 40 false 39,byw 41 .lss 37 40] [1,6,8,9,13,14,15,41]
def ap2:=rg [
byy 43 3 8,by6 44 43,by8 45 9,byx 46 H5 [(.t 44),(.t 45)],by8 42 46,bzf 47 42 0,bzf 48 42 1,bzf 49 42 2,bze 10 47,bze 11 48,bze 12 49] [1,6,8,9,10,11,12,13,14,15]
def ap1:=rg [
by8 50 12,byv 51 .neq 50 0] [1,6,8,9,10,11,12,13,14,15,51]
def ap0:=rg [
by8 52 12,oo 4 (.asg (.c .AB)),bze 5 52] [4,5]
def apz:=rg [
by8 53 6,by8 54 10,oo 55 (.lit false 1 1 (.int .u64 0) [(0,(.t 54))]),oo 56 (.append 1 8 (.t 53) (.t 55)),bze 6 56] [1,6,8,9,11,13,14,15]
def apy:=rg [
by8 57 9,by8 58 11,byw 59 .add 57 58,bze 9 59] [1,6,8,9,13,14,15]
def zy:AD:=(.seq (.seq ap3 (.cond (.t 41) .skip (.exit 3))) (.block 4 (.seq ap2 (.seq (.seq ap1 (.cond (.t 51) (.seq ap0 .ret) .skip)) (.seq apz apy)))))
def bt5:=by1 zy.eq_1
def yj:=rg [
byv 60 .add 15 1,by8 15 60] [1,6,13,14,15]
def vq:AD:=(.seq bji (.seq (.cond (.t 16) .skip (.exit 0)) (.seq (.block 1 (.seq (.seq (.free 8) bjh) (.block 2 (.seq bjg (.cond (.t 19) .skip (.seq bjf (.cond (.t 24) bje (.seq bjd (.cond (.t 33) (.seq bjc (.block 3 (.loop zy))) .skip))))))))) yj)))
def bt6:=by1 vq.eq_1
def yi:=rg [
by8 61 6,byx 62 n_gg [(.t 61)],bze 4 62,byu 5 0] [4,5]
def aT:AD:=(.seq Nb (.seq Na (.seq (.seq NZ (.block 0 (.loop vq))) (.seq yi .ret))))
def kE:AP:=⟨2,[.t 4,.t 5],aT⟩
def a_bm:AG:=⟨[32,56],zzz 15 [apy,apz,ap0,ap1,ap2,ap3,bjc,bjd,bje,bjf,bjg,bjh,bji,NZ,Na,Nb]++[(17,[4,5]),(16,[1,6,13,14,15])],[],[(4,[8])],[],[]⟩
def J1:=rg [
oo 4 (.box 1 (.t 1)),oo 5 (.box 1 (.t 2)),oo 6 (.alloc [(.int .i64 0),(.int .i64 0),(.int .u64 0),.AB,(.int .i64 0)]),oo 7 (.alloc [(.bool false)])] [0,4,5,6,7]
def J0:=rg [
by8 10 0,byx 11 TQ [(.t 10)]] [4,5,6,7,11]
def bh7:=rg [
oo 9 (.alloc [(.int .i64 0),(.int .i64 0),(.int .u64 0),.AB,(.int .i64 0)]),bzd 5 9 13] [4,5,6,7,9]
def btr:AD:=bh7
def bt7:=by1 btr.eq_1
def bh6:=rg [
byy 14 0 9,by6 15 14,by6 16 4,byw 17 .eql 15 16,by8 18 17,og 19 18 true (.AH 1 (.t 9)),og 20 18 true (.load none (.t 19)),og 21 18 true (.load none (.t 5)),og 22 18 true (.bin .eql (.t 20) (.t 21)),bzb 23 18 22] [6,7,9,23]
def bh5:=rg [
by7 24 5 9,bzd 5 6 24,ow (.store 1 (.t 7) (.c (.bool true)))] [6,7]
def btq:AD:=(.block 1 (.seq bh6 (.cond (.t 23) (.seq bh5 .ret) .skip)))
def bt8:=by1 btq.eq_1
def bh4:=rg [
oo 25 (.build [(.int .i64 0),(.int .i64 0),(.int .u64 0),.AB,(.int .i64 0)] []),bzd 5 6 25,ow (.store 1 (.t 7) (.c (.bool false)))] [6,7]
def Zz:AD:=(.seq J1 (.seq (.seq J0 (.block 0 (.each (.t 11) [12,13] btr btq))) (.seq bh4 .ret)))
def iK:AP:=⟨3,[.cell 6 (some 5),.cell 7 none],Zz⟩
def a_ed:=zzy (zzz 5 [bh5,.ret,.ret,bh7,J0,J1]++[(4,[6,7]),(3,[6,7,9,23])])
def JB:=rg [
oo 4 (.asg (.c (.int .u64 0))),byt 5 false] [0,1]
def JA:=rg [
by8 9 0,by8 10 1,byx 11 H4 [(.t 9),(.t 10),(ci 0)],by8 8 11,bzf 12 8 0,bzf 13 8 1,oo 6 (.alloc [(.int .i64 0),(.int .i64 0),(.int .u64 0),.AB,(.int .i64 0)]),bzd 5 6 12,bze 7 13] [6,7]
def I9:=rg [
byy 14 2 6,by6 15 14,by8 16 7,bze 4 15,bze 5 16] [4,5]
def Zl:AD:=(.seq JB (.seq JA (.seq I9 .ret)))
def gO:AP:=⟨2,[.t 4,.t 5],Zl⟩
def a_fp:=zzy (zzz 2 [I9,JA,JB])
def MG:=rg [
oo 4 (.asg (.c (.int .u64 0))),byu 5 0,byu 6 0] [0,1,4]
def MF:=rg [
by8 9 1,byv 10 .lss 9 0,by8 11 10,by0 12 11 false 1,by0 13 11 false 0,og 14 11 false (.len false (.t 13)),og 15 11 false (.bin .gtr (.t 12) (.t 14)),bzc 16 11 15] [0,1,4,16]
@[go_sem] def VR:Ops:=[
oo 4 (.asg (.c (.int .u64 0))),byu 5 0,byu 6 1]
def fH:=rg VR [4,5,6]
def ME:=rg [
by8 17 0,by8 18 1,oo 19 (.slice 1 (.t 17) (some (.t 18)) none none),by5 20 false 19,oo 21 (.mv (ci 0))] [4,19,20,21]
def bij:=rg [
byw 22 .lss 21 20] [4,19,20,21,22]
def bii:=rg [
by8 23 21,by3 24 1 19 21,by6 25 24,bze 7 23,bze 8 25] [4,7,8,19,20,21]
def bih:=rg [
by8 26 7,byv 27 .eql 26 9,by8 28 27,by0 29 28 true 8,og 30 28 true (.bin .gtr (.t 29) (.c (.int .u8 1))),bzb 31 28 30] [4,7,8,19,20,21,31]
def bie:=rg [
oo 4 (.asg (.c (.int .u64 0))),byu 5 0,byu 6 4] [4,5,6]
def bid:=rg [
by8 32 4,by8 33 8,oo 34 (.bin .andNot (.t 33) (.c (.int .u8 128))),oo 35 (.Aj .u64 (.t 34)),by8 36 7,oo 37 (.bin .mul (ci 7) (.t 36)),byw 38 .shl 35 37,byw 39 .or 32 38,bze 4 39] [4,7,8,19,20,21]
def bic:=rg [
by8 40 8,oo 41 (.bin .lss (.t 40) (.c (.int .u8 128)))] [4,7,19,20,21,41]
def apu:=rg [
by8 42 4,by8 43 7,byv 44 .add 43 1,bze 4 42,bze 5 44,byu 6 0] [4,5,6]
def apt:=rg [
byv 45 .add 21 1,by8 21 45] [4,19,20,21]
def avu:AD:=(.seq bij (.seq (.cond (.t 22) .skip (.exit 0)) (.seq (.block 1 (.seq bii (.seq (.seq bih (.cond (.t 31) (.seq bie .ret) .skip)) (.seq bid (.seq bic (.cond (.t 41) (.seq apu .ret) .skip)))))) apt)))
def bt9:=by1 avu.eq_1
def aps:=rg [
oo 4 (.asg (.c (.int .u64 0))),byu 5 0,byu 6 3] [4,5,6]
def aM:AD:=(.seq MG (.seq MF (.cond (.t 16) (.seq fH .ret) (.seq (.seq ME (.block 0 (.loop avu))) (.seq aps .ret)))))
def jR:AP:=⟨2,[.t 4,.t 5,.t 6],aM⟩
def a_ce:=zzy (zzz 11 [apt,apu,bic,bid,bie,bih,bii,bij,ME,.ret,MF,MG]++[(12,[4,5,6]),(2,[4,5,6])])
def Pm:=rg [
oo 4 (.alloc [(.int .i64 0),(.int .i64 0),(.int .u64 0),.AB,(.int .i64 0)]),byu 5 0,byu 6 0] [0,1,4]
def Pk:=rg [
by8 18 0,by8 19 1,byx 20 H5 [(.t 18),(.t 19)],by8 17 20,bzf 21 17 0,bzf 22 17 1,bzf 23 17 2,bze 7 21,bze 8 22,bze 9 23] [0,1,4,7,8,9]
def Pj:=rg [
by8 24 9,byv 25 .neq 24 0] [0,1,4,7,8,9,25]
def Ph:=rg [
oo 26 (.build [(.int .i64 0),(.int .i64 0),(.int .u64 0),.AB,(.int .i64 0)] []),by8 27 9,bzd 5 4 26,byu 5 0,bze 6 27] [4,5,6]
def Pg:=rg [
by8 28 7,oo 29 (.bin .and (.t 28) (.c (.int .u64 7))),oo 30 (.Aj .i64 (.t 29)),by8 31 1,oo 32 (.build [(.int .i64 0),(.int .i64 0),(.int .u64 0),.AB,(.int .i64 0)] [(1,1,(.t 30)),(4,1,(.t 31))]),oo 10 (.alloc [(.int .i64 0),(.int .i64 0),(.int .u64 0),.AB,(.int .i64 0)]),bzd 5 10 32] [0,1,4,7,8,10]
def Pf:=rg [
by8 33 7,oo 34 (.bin .shr (.t 33) (.c (.int .u64 3))),oo 35 (.bin .lss (.t 34) (.c (.int .u64 1))),by8 36 35,by0 37 36 false 7,og 38 36 false (.bin .shr (.t 37) (.c (.int .u64 3))),og 39 36 false (.bin .gtr (.t 38) (.c (.int .u64 536870911))),bzc 40 36 39] [0,1,4,7,8,10,40]
def Pe:=rg [
oo 41 (.build [(.int .i64 0),(.int .i64 0),(.int .u64 0),.AB,(.int .i64 0)] []),bzd 5 4 41,byu 5 0,byu 6 2] [4,5,6]
def Pd:=rg [
by8 42 7,oo 43 (.bin .shr (.t 42) (.c (.int .u64 3))),oo 44 (.Aj .i64 (.t 43)),byy 45 0 10,bzd 1 45 44] [0,1,4,8,10]
def Pc:=rg [
byu 11 0] [0,1,4,8,10,11]
def Pb:=rg [
byy 46 1 10,by6 47 46] [0,1,4,8,10,11,47]
def blv:=rg [
byv 49 .eql 47 0,bze 48 49] [0,1,4,8,10,11,47,48]
def blu:=rg [
byv 50 .eql 47 2,bze 48 50] [0,1,4,8,10,11,47,48]
def blt:=rg [
byv 52 .eql 47 1,bze 51 52] [0,1,4,8,10,11,47,51]
def bls:=rg [
byv 54 .eql 47 5,bze 53 54] [0,1,4,8,10,11,53]
def blr:=rg [
by8 56 0,by8 57 1,by8 58 8,byw 59 .add 57 58,byx 60 H5 [(.t 56),(.t 59)],by8 55 60,bzf 61 55 0,bzf 62 55 1,bzf 63 55 2,bze 12 61,bze 13 62,bze 14 63] [0,1,4,8,10,12,13,14]
def blq:=rg [
by8 64 14,byv 65 .neq 64 0] [0,1,4,8,10,12,13,14,65]
def blp:=rg [
oo 66 (.build [(.int .i64 0),(.int .i64 0),(.int .u64 0),.AB,(.int .i64 0)] []),by8 67 14,bzd 5 4 66,byu 5 0,bze 6 67] [4,5,6]
def blo:=rg [
by8 68 8,by8 69 13,byw 70 .add 68 69,bze 8 70] [0,1,4,8,10,12]
def bln:=rg [
byy 71 1 10,by6 72 71,byv 73 .eql 72 0] [0,1,4,8,10,12,73]
def blm:=rg [
by8 74 12,byy 75 2 10,bzd 1 75 74] [4,8,10]
def bll:=rg [
by7 76 5 10,by8 77 8,bzd 5 4 76,bze 5 77,byu 6 0] [4,5,6]
def blj:=rg [
by8 78 12,by8 79 0,by5 80 false 79,by8 81 1,byw 82 .sub 80 81,by8 83 8,byw 84 .sub 82 83,oo 85 (.Aj .u64 (.t 84)),byw 86 .gtr 78 85] [0,1,4,8,10,12,86]
def bli:=rg [
oo 87 (.build [(.int .i64 0),(.int .i64 0),(.int .u64 0),.AB,(.int .i64 0)] []),bzd 5 4 87,byu 5 0,byu 6 3] [4,5,6]
def blh:=rg [
by8 88 0,by8 89 1,by8 90 8,byw 91 .add 89 90,by8 92 1,by8 93 8,byw 94 .add 92 93,by8 95 12,oo 96 (.Aj .i64 (.t 95)),byw 97 .add 94 96,oo 98 (.slice 1 (.t 88) (some (.t 91)) (some (.t 97)) none),byx 99 HV [(.t 98)],byx 100 V4 [(.t 99)],byy 101 3 10,bzd 1 101 100] [4,8,10,12]
def blg:=rg [
by7 102 5 10,by8 103 8,by8 104 12,oo 105 (.Aj .i64 (.t 104)),byw 106 .add 103 105,bzd 5 4 102,bze 5 106,byu 6 0] [4,5,6]
def blf:=rg [
by8 107 11,byv 108 .add 107 4,bze 11 108] [0,1,4,8,10,11]
def ble:=rg [
by8 109 11,byv 110 .add 109 4,bze 11 110] [0,1,4,8,10,11]
def bld:=rg [
oo 111 (.build [(.int .i64 0),(.int .i64 0),(.int .u64 0),.AB,(.int .i64 0)] []),bzd 5 4 111,byu 5 0,byu 6 2] [4,5,6]
def blc:=rg [
by8 112 11,by8 113 0,by5 114 false 113,by8 115 1,byw 116 .sub 114 115,by8 117 8,byw 118 .sub 116 117,byw 119 .gtr 112 118] [0,1,4,8,10,11,119]
def blb:=rg [
oo 120 (.build [(.int .i64 0),(.int .i64 0),(.int .u64 0),.AB,(.int .i64 0)] []),bzd 5 4 120,byu 5 0,byu 6 3] [4,5,6]
def bla:=rg [
by8 121 0,by8 122 1,by8 123 8,byw 124 .add 122 123,by8 125 1,by8 126 8,byw 127 .add 125 126,by8 128 11,byw 129 .add 127 128,oo 130 (.slice 1 (.t 121) (some (.t 124)) (some (.t 129)) none),by5 131 false 130,oo 132 (.mv (ci 0))] [4,8,10,11,130,131,132]
def ars:=rg [
byw 133 .lss 132 131] [4,8,10,11,130,131,132,133]
def arr:=rg [
by8 134 132,by3 135 1 130 132,by6 136 135,bze 15 134,bze 16 136] [4,8,10,11,15,16,130,131,132]
@[go_sem] def ad1:Ops:=[
byy 137 2 10,by6 138 137,by8 139 16,oo 140 (.Aj .u64 (.t 139)),by8 141 15,oo 142 (.bin .mul (ci 8) (.t 141)),byw 143 .shl 140 142,byw 144 .or 138 143,byy 145 2 10,bzd 1 145 144]
def ad2:List (Nat×Nat):=[(0,2),(1,2),(0,3),(1,3),(0,4),(1,4),(2,4),(3,4),(0,5),(1,5),(2,5),(3,5),(0,6),(1,6)]
def arq:AD:= .region ad1 ad2 [4,8,10,11,130,131,132]
@[go_sem] theorem r_ap_33_u:Gu X K s arq ad2 ad1 [4,8,10,11,130,131,132]:=Ab _ _ _ _
def arp:=rg [
byv 146 .add 132 1,by8 132 146] [4,8,10,11,130,131,132]
def av4:AD:=(.seq ars (.seq (.cond (.t 133) .skip (.exit 5)) (.seq (.block 6 (.seq arr arq)) arp)))
def bua:=by1 av4.eq_1
def aro:=rg [
by7 147 5 10,by8 148 8,by8 149 11,byw 150 .add 148 149,bzd 5 4 147,bze 5 150,byu 6 0] [4,5,6]
def EO:AD:=(.seq Pm (.seq Pk (.seq Pj (.cond (.t 25) (.seq Ph .ret) (.seq Pg (.seq Pf (.cond (.t 40) (.seq Pe .ret) (.seq Pd (.seq Pc (.seq (.seq Pb (.block 0 (.seq (.block 4 (.seq (.block 3 (.seq (.block 2 (.seq (.block 1 (.seq (.seq (.seq (.seq blv (.cond (.t 48) .skip blu)) (.cond (.t 48) (.exit 1) .skip)) (.seq (.seq blt (.cond (.t 51) (.exit 2) .skip)) (.seq bls (.cond (.t 53) (.exit 3) .skip)))) (.exit 4))) (.seq (.seq blr (.seq (.seq blq (.cond (.t 65) (.seq blp .ret) .skip)) (.seq blo (.seq (.seq bln (.cond (.t 73) (.seq blm (.seq bll .ret)) .skip)) (.seq (.seq blj (.cond (.t 86) (.seq bli .ret) .skip)) (.seq blh (.seq blg .ret))))))) (.exit 0)))) blf)) (.seq ble (.exit 0)))) (.seq (.seq bld .ret) (.exit 0))))) (.seq blc (.cond (.t 119) (.seq blb .ret) (.seq (.seq bla (.block 5 (.loop av4))) (.seq aro .ret))))))))))))))
def kV:AP:=⟨2,[.cell 4 (some 5),.t 5,.t 6],EO⟩
def a_ap:=zzy (zzz 34 [arp,.ret,arr,ars,bla,blb,blc,bld,ble,blf,blg,blh,bli,blj,bll,blm,bln,blo,blp,blq,blr,bls,blt,blu,blv,Pb,Pc,Pd,Pe,Pf,Pg,Ph,Pj,Pk,Pm]++[(35,[4,5,6]),(33,[4,8,10,11,130,131,132])])
def OG:=rg [
oo 2 (.asg (.c .AB)),byu 3 0] [0]
def OE:=rg [
by8 9 0,by5 10 false 9,byv 11 .gtr 10 262144] [0,11]
def OD:=rg [
oo 2 (.asg (.c .AB)),byu 3 4] [2,3]
def OC:=rg [
oo 4 (.asg (.c .AB))] [0,4]
def OB:=rg [
byu 5 0] [0,4,5]
def bkc:=rg [
by8 12 5,by8 13 0,by5 14 false 13,byw 15 .lss 12 14] [0,4,5,15]
def bkb:=rg [
by8 16 4,by5 17 false 16,byv 18 .geq 17 4096] [0,4,5,18]
def bka:=rg [
oo 2 (.asg (.c .AB)),byu 3 4] [2,3]
def bj9:=rg [
by8 20 0,by8 21 5,byx 22 T0 [(.t 20),(.t 21)],by8 19 22,bzf 23 19 0,bzf 24 19 1,bzf 25 19 2,oo 6 (.alloc [(.int .i64 0),(.int .i64 0),(.int .u64 0),.AB,(.int .i64 0)]),bzd 5 6 23,bze 7 24,bze 8 25] [0,4,5,6,7,8]
def bj8:=rg [
by8 26 8,byv 27 .neq 26 0] [0,4,5,6,7,8,27]
def aqf:=rg [
by8 28 8,oo 2 (.asg (.c .AB)),bze 3 28] [2,3]
def aqe:=rg [
by8 29 4,by7 30 5 6,oo 31 (.lit false 5 1 (.agg [(.int .i64 0),(.int .i64 0),(.int .u64 0),(.sl []),(.int .i64 0)]) [(0,(.t 30))]),oo 32 (.append 5 56 (.t 29) (.t 31)),bze 4 32] [0,4,5,7]
def aqd:=rg [
by8 33 5,by8 34 7,byw 35 .add 33 34,bze 5 35] [0,4,5]
def avx:AD:=(.seq (.seq bkc (.cond (.t 15) .skip (.exit 0))) (.block 1 (.seq (.seq bkb (.cond (.t 18) (.seq bka .ret) .skip)) (.seq (.seq (.free 6) bj9) (.seq (.seq bj8 (.cond (.t 27) (.seq aqf .ret) .skip)) (.seq aqe aqd))))))
def bub:=by1 avx.eq_1
def aqc:=rg [
by8 36 4,byx 37 n_f7 [(.t 36)],bze 2 37,byu 3 0] [2,3]
def XP:AD:=(.seq OG (.seq OE (.cond (.t 11) (.seq OD .ret) (.seq OC (.seq (.seq OB (.block 0 (.loop avx))) (.seq aqc .ret))))))
def kK:AP:=⟨1,[.t 2,.t 3],XP⟩
def a_b9:AG:=⟨[32],zzz 12 [aqd,aqe,aqf,bj8,bj9,bka,bkb,bkc,OB,OC,OD,OE,OG]++[(13,[2,3])],[],[(8,[6])],[],[]⟩
@[go_sem] def aw7:Ops:=[
by6 5 2,by8 6 0,by8 7 1,oo 8 (.Aj .u64 (.t 7)),byx 9 HT [(.c .AB),(.t 8)],oo 10 (.BO false (.t 5) [(.t 6),(.t 9)])]
def aw8:List (Nat×Nat):=[(0,1),(0,2),(1,2),(0,3),(1,3),(0,4),(1,4)]
def U8:AD:= .region aw7 aw8 []
@[go_sem] theorem r_fi_0_u:Gu X K s U8 aw8 aw7 []:=Ab _ _ _ _
def nT:AD:=U8
def gT:AP:=⟨3,[],nT⟩
def a_fi:=zzy ([(0,[])])
def Jb:=rg [
byy 5 13 2,by6 6 5] [0,1,2,6]
def Ja:=rg [
by8 7 1,by8 8 0,byy 9 14 2,by6 10 9,oo 11 (.BO false (.t 7) [(.t 8),(.t 10)])] []
def Zs:AD:=(.seq Jb (.cond (.t 6) Ja .skip))
def iB:AP:=⟨3,[],Zs⟩
def a_ez:=zzy (zzz 1 [Ja,Jb])
def Jq:=rg [
byy 3 2 1,by6 4 3] [0,1,4]
def Jp:=rg [
by8 5 0,byy 6 3 1,byy 7 1 6,by6 8 7,oo 9 (.BO false (.t 5) [(ci 1),(.t 8)])] [0,1]
def Jo:=rg [
by8 10 0,byy 11 8 1,byy 12 1 11,by6 13 12,oo 14 (.BO false (.t 10) [(ci 2),(.t 13)])] []
def Zv:AD:=(.seq Jq (.cond (.t 4) (.seq Jp Jo) .skip))
def iG:AP:=⟨2,[],Zv⟩
def a_em:=zzy (zzz 2 [Jo,Jp,Jq])
def JZ:=rg [
oo 2 (.asg (.c (.int .u64 0)))] [0]
def JY:=rg [
by8 3 0,byv 4 .lss 3 0] [0,4]
def JX:=rg [
by8 5 0,oo 6 (.Aj .u64 (.t 5)),oo 7 (.un .neg (.t 6)),bze 2 7] [2]
def JW:=rg [
by8 8 0,oo 9 (.Aj .u64 (.t 8)),bze 2 9] [2]
def Zr:AD:=(.seq JZ (.seq JY (.cond (.t 4) (.seq JX .ret) (.seq JW .ret))))
def iA:AP:=⟨1,[.t 2],Zr⟩
def a_fa:=zzy (zzz 3 [JW,JX,JY,JZ])
def OR:=rg [
oo 4 (.asg (.c (.str [])))] [0,1]
def OQ:=rg [
by8 9 1,oo 10 (.DT true [(.t 9),(ci 0)]),oo 11 (.DT false [(.t 10),(ci 18)]),bze 1 11] [0,1]
def OP:=rg [
by8 12 0,byx 13 Rj [(.t 12)],byx 14 V5 [(.t 13),(ci 10)],bze 5 14] [0,1,5]
def OO:=rg [
by8 15 1,byv 16 .add 15 1,by8 17 5,by5 18 true 17,byw 19 .sub 16 18,bze 6 19] [0,1,5,6]
def ON:=rg [
by8 20 6,byv 21 .gtr 20 0] [0,1,5,6,21]
def OM:=rg [
by8 22 6,byx 23 TF [(.c (.str [48])),(.t 22)],by8 24 5,byw 25 .add 23 24,bze 5 25] [0,1,5]
def OL:=rg [
by8 26 5,by5 27 true 26,by8 28 1,byw 29 .sub 27 28,bze 7 29] [0,1,5,7]
def OJ:=rg [
by8 30 5,by8 31 7,oo 32 (.CK (.t 30) none (some (.t 31))),bze 8 32] [0,1,5,7,8]
def OI:=rg [
by8 33 1,byv 34 .gtr 33 0] [0,5,7,8,34]
def OH:=rg [
by8 35 8,by8 36 5,by8 37 7,oo 38 (.CK (.t 36) (some (.t 37)) none),oo 39 (.bin .add (.c (.str [46])) (.t 38)),byw 40 .add 35 39,bze 8 40] [0,8]
def bkf:=rg [
by8 41 0,byv 42 .lss 41 0] [8,42]
def bke:=rg [
by8 43 8,oo 44 (.bin .add (.c (.str [45])) (.t 43)),bze 8 44] [8]
def bkd:=rg [
by8 45 8,bze 4 45] [4]
def F8:AD:=(.seq OR (.seq OQ (.seq OP (.seq (.seq OO (.seq ON (.cond (.t 21) OM .skip))) (.seq OL (.seq OJ (.seq (.seq OI (.cond (.t 34) OH .skip)) (.seq (.seq bkf (.cond (.t 42) bke .skip)) (.seq bkd .ret)))))))))
def kL:AP:=⟨2,[.t 4],F8⟩
def a_b7:=zzy (zzz 12 [bkd,bke,bkf,OH,OI,OJ,OL,OM,ON,OO,OP,OQ,OR])
@[go_sem] def axg:Ops:=[
by6 6 2,by8 7 0,by8 8 1,byy 9 5 3,by6 10 9,byx 11 Tt [(.t 8),(.t 10)],oo 12 (.s2b false (.t 11)),oo 13 (.BO false (.t 6) [(.t 7),(.t 12)])]
def axh:List (Nat×Nat):=[(0,1),(0,2),(1,2),(0,3),(1,3),(2,3),(0,4),(1,4),(2,4),(0,5),(1,5),(0,6),(1,6)]
def U9:AD:= .region axg axh []
@[go_sem] theorem r_fc_0_u:Gu X K s U9 axh axg []:=Ab _ _ _ _
def nV:AD:=U9
def gZ:AP:=⟨4,[],nV⟩
def a_fc:=zzy ([(0,[])])
def JL:=rg [
by6 5 2,by8 6 0,by8 7 1,byx 8 Rn [(.t 5),(.t 6),(.t 7)],bzd 1 2 8] []
def nU:AD:=JL
def gV:AP:=⟨3,[],nU⟩
def a_fh:=zzy (zzz 0 [JL])
def I4:=rg [
oo 2 (.asg (.c (.int .u64 0)))] [0]
def I3:=rg [
by8 3 0,oo 4 (.Aj .u64 (.t 3)),oo 5 (.bin .shl (.t 4) (.c (.int .u64 1))),by8 6 0,oo 7 (.bin .shr (.t 6) (.c (.int .u64 63))),oo 8 (.Aj .u64 (.t 7)),byw 9 .xor 5 8,bze 2 9] [2]
def Zi:AD:=(.seq I4 (.seq I3 .ret))
def gK:AP:=⟨1,[.t 2],Zi⟩
def a_fu:=zzy (zzz 1 [I3,I4])
def JJ:=rg [
oo 6 (.asg (.c .AB))] [0,1,2]
def JI:=rg [
by8 7 0,by8 8 1,by8 9 2,byx 10 TH [(.t 9)],byx 11 Gw [(.t 7),(.t 8),(.t 10)],bze 6 11] [6]
def Zn:AD:=(.seq JJ (.seq JI .ret))
def gR:AP:=⟨3,[.t 6],Zn⟩
def a_fk:=zzy (zzz 1 [JI,JJ])
def JK:=rg [
by6 5 2,by8 6 0,by8 7 1,byx 8 TK [(.t 5),(.t 6),(.t 7)],bzd 1 2 8] []
def nS:AD:=JK
def gS:AP:=⟨3,[],nS⟩
def a_fj:=zzy (zzz 0 [JK])
def Qf:=rg [
oo 2 (.box 8 (.t 0)),oo 3 (.box 15 (.t 1)),oo 4 (.asg (.c .AB))] [2,3]
def r_fj:=rg [
oo 5 (.alloc [.AB])] [2,3,5]
def r_fh:=rg [
oo 11 (.mkF H0 [] [(.t 5)]),bze 6 11] [2,3,5,6]
def r_fc:=rg [
oo 12 (.mkF H2 [] [(.t 5)]),oo 7 (.alloc [.EH]),bzd 1 7 12] [2,3,5,6,7]
def r_em:=rg [
oo 13 (.mkF H3 [] [(.t 7),(.t 2)]),bze 8 13] [2,3,5,6,7,8]
def r_ez:=rg [
oo 14 (.mkF TS [] [(.t 3)]),bze 9 14] [2,3,5,6,7,8,9]
def r_fi:=rg [
oo 15 (.mkF Rk [] [(.t 3)]),bze 10 15] [2,3,5,6,7,8,9,10]
def Qe:=rg [
byy 16 0 2,by6 17 16,byx 18 HX [(.t 17)]] [3,5,6,7,8,9,10,18]
def Qd:=rg [
byv 20 .eql 18 2,bze 19 20] [3,5,6,7,8,9,10,18,19]
def Qc:=rg [
by8 21 9,by8 22 6,oo 23 (.BO false (.t 21) [(.t 22)])] [5,6,10]
def bog:=rg [
by8 24 10,by8 25 6,oo 26 (.BO false (.t 24) [(ci 3),(.t 25)])] [5]
def bof:=rg [
byv 28 .eql 18 4,bze 27 28] [3,5,6,7,8,9,10,18,27]
def boe:=rg [
byy 29 2 3,by6 30 29] [3,5,6,7,10,30]
def bod:=rg [
by6 31 7,byy 32 3 3,byy 33 3 32,by6 34 33,oo 35 (.BO false (.t 31) [(ci 1),(.t 34)])] [3,5,6,7,10]
def boc:=rg [
by6 36 7,byy 37 8 3,byy 38 3 37,by6 39 38,oo 40 (.BO false (.t 36) [(ci 2),(.t 39)])] [5,6,10]
def bob:=rg [
by8 41 10,by8 42 6,oo 43 (.BO false (.t 41) [(ci 3),(.t 42)])] [5]
def boa:=rg [
byv 45 .eql 18 5,bze 44 45] [3,5,6,7,8,9,10,18,44]
def bn9:=rg [
by8 46 10,oo 47 (.mkF TL [] [(.t 7)]),oo 48 (.BO false (.t 46) [(ci 1),(.t 47)])] [5]
def bn8:=rg [
byv 50 .eql 18 6,bze 49 50] [3,5,6,8,9,10,18,49]
def bn7:=rg [
by8 51 9,by8 52 8,oo 53 (.BO false (.t 51) [(.t 52)])] [5,8,10]
def bn6:=rg [
by8 54 10,by8 55 8,oo 56 (.BO false (.t 54) [(ci 3),(.t 55)])] [5]
def bn5:=rg [
byv 58 .eql 18 8,bze 57 58] [3,5,6,9,10,18,57]
def bn4:=rg [
by8 59 10,by8 60 6,oo 61 (.BO false (.t 59) [(ci 1),(.t 60)])] [5]
def bn3:=rg [
byv 63 .eql 18 9,bze 62 63] [3,5,6,9,18,62]
def bn2:=rg [
byy 64 2 3,by6 65 64] [3,5,6,9,65]
def bn1:=rg [
by8 66 9,by8 67 6,oo 68 (.BO false (.t 66) [(.t 67)])] [3,5]
@[go_sem] def ag0:Ops:=[
by6 69 5,byy 70 3 3,byy 71 2 70,by6 72 71,oo 73 (.Aj .u64 (.t 72)),byx 74 Gw [(.t 69),(ci 3),(.t 73)],byy 75 8 3,byy 76 2 75,by6 77 76,oo 78 (.Aj .u64 (.t 77)),byx 79 Gw [(.t 74),(ci 4),(.t 78)],bzd 1 5 79]
def ag1:List (Nat×Nat):=[(0,1),(0,2),(0,3),(0,4),(0,6),(1,6),(2,6),(3,6),(4,6),(5,6),(0,7),(1,7),(2,7),(3,7),(4,7),(5,7),(0,8),(1,8),(2,8),(3,8),(4,8),(5,8),(0,9),(1,9),(2,9),(3,9),(4,9),(5,9)]
def bn0:AD:= .region ag0 ag1 [5]
@[go_sem] theorem r_ah_26_u:Gu X K s bn0 ag1 ag0 [5]:=Ab _ _ _ _
def bnz:=rg [
byv 81 .eql 18 7,bze 80 81] [5,6,9,80]
def bny:=rg [
by8 82 9,by8 83 6,oo 84 (.BO false (.t 82) [(.t 83)])] [5]
def bnx:=rg [
by6 85 5,bze 4 85] [4]
def Fc:AD:=(.seq Qf (.seq r_fj (.seq r_fh (.seq r_fc (.seq r_em (.seq r_ez (.seq r_fi (.seq (.seq Qe (.block 0 (.seq Qd (.cond (.t 19) (.seq Qc bog) (.seq bof (.cond (.t 27) (.seq (.seq boe (.cond (.t 30) (.seq bod boc) .skip)) bob) (.seq boa (.cond (.t 44) bn9 (.seq bn8 (.cond (.t 49) (.seq bn7 bn6) (.seq bn5 (.cond (.t 57) bn4 (.seq bn3 (.cond (.t 62) (.seq bn2 (.cond (.t 65) (.seq bn1 bn0) .skip)) (.seq bnz (.cond (.t 80) bny .skip)))))))))))))))) (.seq bnx .ret)))))))))
def lC:AP:=⟨2,[.t 4],Fc⟩
def a_ah:=zzy (zzz 29 [bnx,bny,bnz,.ret,bn1,bn2,bn3,bn4,bn5,bn6,bn7,bn8,bn9,boa,bob,boc,bod,boe,bof,bog,Qc,Qd,Qe,.ret,.ret,.ret,.ret,.ret,.ret,Qf]++[(26,[5]),(6,[2,3,5,6,7,8,9,10]),(5,[2,3,5,6,7,8,9]),(4,[2,3,5,6,7,8]),(3,[2,3,5,6,7]),(2,[2,3,5,6]),(1,[2,3,5])])
def N3:=rg [
byu 2 0] [0]
def N1:=rg [
by8 3 0] [3]
def N0:=rg [
byv 5 .eql 3 1,bze 4 5] [3,4]
def Nz:=rg [
byv 6 .eql 3 2,bze 4 6] [3,4]
def Ny:=rg [
byv 8 .eql 3 3,bze 7 8] [3,7]
def Nx:=rg [
byv 9 .eql 3 4,bze 7 9] [3,7]
def Nw:=rg [
byv 11 .eql 3 7,bze 10 11] [3,10]
def Nv:=rg [
byv 12 .eql 3 16,bze 10 12] [3,10]
def Nu:=rg [
byv 13 .eql 3 17,bze 10 13] [3,10]
def Nt:=rg [
byv 15 .eql 3 0,bze 14 15] [3,14]
def bj0:=rg [
byv 17 .eql 3 14,bze 16 17] [3,16]
def bjz:=rg [
byv 19 .eql 3 15,bze 18 19] [3,18]
def bjy:=rg [
byv 21 .eql 3 8,bze 20 21] [3,20]
def bjx:=rg [
byv 23 .eql 3 9,bze 22 23] [22]
def bjw:=rg [
byu 2 2] [2]
def bjv:=rg [
byu 2 4] [2]
def bju:=rg [
byu 2 5] [2]
def bjt:=rg [
byu 2 6] [2]
def bjs:=rg [
byu 2 7] [2]
def bjr:=rg [
byu 2 8] [2]
def bjq:=rg [
byu 2 9] [2]
def bjp:=rg [
byu 2 0] [2]
def aV:AD:=(.seq N3 (.seq (.seq N1 (.block 0 (.seq (.block 8 (.seq (.block 7 (.seq (.block 6 (.seq (.block 5 (.seq (.block 4 (.seq (.block 3 (.seq (.block 2 (.block 1 (.seq (.seq (.seq (.seq N0 (.cond (.t 4) .skip Nz)) (.cond (.t 4) (.exit 1) .skip)) (.seq (.seq (.seq Ny (.cond (.t 7) .skip Nx)) (.cond (.t 7) (.exit 2) .skip)) (.seq (.seq (.seq Nw (.cond (.t 10) .skip (.seq Nv (.cond (.t 10) .skip Nu)))) (.cond (.t 10) (.exit 3) .skip)) (.seq (.seq Nt (.cond (.t 14) (.exit 4) .skip)) (.seq (.seq bj0 (.cond (.t 16) (.exit 5) .skip)) (.seq (.seq bjz (.cond (.t 18) (.exit 6) .skip)) (.seq (.seq bjy (.cond (.t 20) (.exit 7) .skip)) (.seq bjx (.cond (.t 22) (.exit 8) .skip))))))))) (.exit 0)))) (.seq (.seq bjw .ret) (.exit 0)))) (.seq (.seq bjv .ret) (.exit 0)))) (.seq (.seq bju .ret) (.exit 0)))) (.seq (.seq bjt .ret) (.exit 0)))) (.seq (.seq bjs .ret) (.exit 0)))) (.seq (.seq bjr .ret) (.exit 0)))) (.seq (.seq bjq .ret) (.exit 0))))) (.seq bjp .ret)))
def kH:AP:=⟨1,[.t 2],aV⟩
def a_bc:=zzy (zzz 21 [bjp,bjq,bjr,bjs,bjt,bju,bjv,bjw,bjx,bjy,bjz,bj0,Nt,Nu,Nv,Nw,Nx,Ny,Nz,N0,N1,N3])
def NF:=rg [
oo 2 (.box 8 (.t 0)),oo 3 (.box 15 (.t 1)),oo 4 (.asg (.c .AB))] [2,3]
def ND:=rg [
byy 8 0 3,by6 9 8,oo 10 (.Aj .u64 (.t 9)),byx 11 Gw [(.c .AB),(ci 1),(.t 10)],bze 5 11] [2,3,5]
def NC:=rg [
byy 12 0 2,by6 13 12,byx 14 HX [(.t 13)],bze 6 14] [2,3,5,6]
def NB:=rg [
by8 15 6,byv 16 .gtr 15 0,by8 17 16,og 18 17 true (.AH 2 (.t 3)),og 19 17 true (.load none (.t 18)),by0 20 17 true 19,og 21 20 false (.AH 13 (.t 3)),og 22 20 false (.load none (.t 21)),og 23 17 true (.pick (.t 20) (.c (.bool true)) (.t 22)),bzb 24 17 23] [2,3,5,6,24]
def NA:=rg [
by8 25 5,by8 26 6,by7 27 8 2,by7 28 15 3,byx 29 T3 [(.t 27),(.t 28)],byx 30 Rn [(.t 25),(.t 26),(.t 29)],bze 5 30] [3,5]
def M9:=rg [
oo 7 (.asg (.c (.int .u64 0)))] [3,5,7]
def M8:=rg [
byy 31 1 3,by6 32 31] [5,7,32]
def M7:=rg [
oo 7 (.asg (.c (.int .u64 1)))] [5,7]
def M6:=rg [
by8 33 5,by8 34 7,byx 35 Gw [(.t 33),(ci 10),(.t 34)],bze 4 35] [4]
def Et:AD:=(.seq NF (.seq ND (.seq (.seq NC (.seq NB (.cond (.t 24) NA .skip))) (.seq M9 (.seq (.seq M8 (.cond (.t 32) M7 .skip)) (.seq M6 .ret))))))
def kA:AP:=⟨2,[.t 4],Et⟩
def a_bq:=zzy (zzz 8 [M6,M7,M8,M9,NA,NB,NC,ND,NF])
def KB:=rg [
oo 6 (.asg (.c .AB))] [0,1,2]
def KA:=rg [
by8 10 0,by8 11 1,byx 12 Rf [(.t 10),(.t 11),(ci 2)],by8 9 12,bzf 13 9 0,bzf 14 9 1,bze 7 13,bze 8 14] [2,7,8]
def J9:=rg [
by8 15 8,bza 16 15] [2,7,16]
@[go_sem] def VB:Ops:=[
by8 17 7,bze 6 17]
def eU:=rg VB [6]
def J8:=rg [
by8 18 7,by8 19 2,by5 20 false 19,oo 21 (.Aj .u64 (.t 20)),oo 22 (.call true HT [(.t 18),(.t 21)]),by8 23 2,oo 24 (.append 1 1 (.t 22) (.t 23)),byx 25 V4 [(.t 24)],bze 6 25] [6]
def Z1:AD:=(.seq KB (.seq KA (.seq J9 (.cond (.t 16) (.seq eU .ret) (.seq J8 .ret)))))
def iN:AP:=⟨3,[.t 6],Z1⟩
def a_dy:AG:=⟨[22],zzz 4 [J8,.ret,J9,KA,KB]++[(3,[6])],[],[],[],[]⟩
def Lq:=rg [
oo 4 (.asg (.c .AB))] [0,1]
def Lp:=rg [
by8 6 0,oo 7 (.call true HV [(.t 6)]),bze 5 7] [1,5]
def bib:=rg [
by8 8 1,oo 9 (.bin .geq (.t 8) (.c (.int .u64 128)))] [1,5,9]
def bia:=rg [
by8 10 5,by8 11 1,oo 12 (.Aj .u8 (.t 11)),oo 13 (.bin .or (.t 12) (.c (.int .u8 128))),oo 14 (.lit false 1 1 (.int .u8 0) [(0,(.t 13))]),oo 15 (.append 1 1 (.t 10) (.t 14)),bze 5 15] [1,5]
def bh9:=rg [
by8 16 1,oo 17 (.bin .shr (.t 16) (.c (.int .u64 7))),bze 1 17] [1,5]
def bts:AD:=(.seq (.seq bib (.cond (.t 9) .skip (.exit 0))) (.block 1 (.seq bia bh9)))
def buc:=by1 bts.eq_1
def bh8:=rg [
by8 18 5,by8 19 1,oo 20 (.Aj .u8 (.t 19)),oo 21 (.lit false 1 1 (.int .u8 0) [(0,(.t 20))]),oo 22 (.append 1 1 (.t 18) (.t 21)),byx 23 V4 [(.t 22)],bze 4 23] [4]
def UG:AD:=(.seq Lq (.seq Lp (.seq (.block 0 (.loop bts)) (.seq bh8 .ret))))
def jN:AP:=⟨2,[.t 4],UG⟩
def a_co:AG:=⟨[7,15],zzz 4 [bh9,bia,bib,Lp,Lq]++[(5,[4])],[],[],[],[]⟩
def MW:=rg [
oo 2 (.asg (.c .AB))] [0]
def MV:=rg [
by8 3 0,oo 4 (.isNil false (.t 3))] [0,4]
@[go_sem] def VT:Ops:=[
oo 2 (.asg (.c .AB))]
def fI:=rg VT [2]
def MU:=rg [
oo 5 (.lit true 1 0 (.int .u8 0) []),by8 6 0,oo 7 (.append 1 1 (.t 5) (.t 6)),bze 2 7] [2]
def aO:AD:=(.seq MW (.seq MV (.cond (.t 4) (.seq fI .ret) (.seq MU .ret))))
def jU:AP:=⟨1,[.t 2],aO⟩
def a_bz:AG:=⟨[5],zzz 3 [MU,.ret,MV,MW]++[(2,[2])],[],[],[],[]⟩
def JH:=rg [
oo 6 (.asg (.c .AB)),byt 7 false] [0,1,2]
def JG:=rg [
by8 8 1,byv 9 .lss 8 1,by8 10 9,by0 11 10 false 1,og 12 10 false (.bin .gtr (.t 11) (ci 536870911)),bzc 13 10 12] [0,1,2,13]
@[go_sem] def U7:Ops:=[
by8 14 0,byx 15 HV [(.t 14)],bze 6 15,byt 7 false]
def eS:=rg U7 [6,7]
def JF:=rg [
by8 16 0,by8 17 1,oo 18 (.Aj .u64 (.t 17)),oo 19 (.bin .shl (.t 18) (.c (.int .u64 3))),by8 20 2,oo 21 (.Aj .u64 (.t 20)),byw 22 .or 19 21,byx 23 HT [(.t 16),(.t 22)],bze 6 23,byt 7 true] [6,7]
def Zm:AD:=(.seq JH (.seq JG (.cond (.t 13) (.seq eS .ret) (.seq JF .ret))))
def gQ:AP:=⟨3,[.t 6,.t 7],Zm⟩
def a_fm:=zzy (zzz 3 [JF,.ret,JG,JH]++[(2,[6,7])])
def J5:=rg [
oo 6 (.asg (.c .AB))] [0,1,2]
def J4:=rg [
by8 10 0,by8 11 1,byx 12 Rf [(.t 10),(.t 11),(ci 0)],by8 9 12,bzf 13 9 0,bzf 14 9 1,bze 7 13,bze 8 14] [2,7,8]
def J3:=rg [
by8 15 8,bza 16 15] [2,7,16]
@[go_sem] def VA:Ops:=[
by8 17 7,bze 6 17]
def eT:=rg VA [6]
def J2:=rg [
by8 18 7,by8 19 2,byx 20 HT [(.t 18),(.t 19)],bze 6 20] [6]
def Z0:AD:=(.seq J5 (.seq J4 (.seq J3 (.cond (.t 16) (.seq eT .ret) (.seq J2 .ret)))))
def iL:AP:=⟨3,[.t 6],Z0⟩
def a_ec:=zzy (zzz 4 [J2,.ret,J3,J4,J5]++[(3,[6])])
def Mu:=rg [
oo 2 (.asg (.c .AB))] [0]
def Mt:=rg [
by8 3 0,oo 4 (.isNil false (.t 3))] [0,4]
@[go_sem] def VU:Ops:=[
oo 2 (.asg (.c .AB))]
def fJ:=rg VU [2]
def Ms:=rg [
oo 5 (.lit true 1 0 (.str []) []),by8 6 0,oo 7 (.append 1 16 (.t 5) (.t 6)),bze 2 7] [2]
def aQ:AD:=(.seq Mu (.seq Mt (.cond (.t 4) (.seq fJ .ret) (.seq Ms .ret))))
def jY:AP:=⟨1,[.t 2],aQ⟩
def a_bt:AG:=⟨[5],zzz 3 [Ms,.ret,Mt,Mu]++[(2,[2])],[],[],[],[]⟩
def Rb:=rg [
oo 5 (.box 6 (.t 1)),oo 8 (.asg (.c .AB))] [0,2,3,5]
def Ra:=rg [
by8 13 0,by5 14 false 13,bze 9 14] [0,2,3,5,9]
@[go_sem] def beg:Ops:=[
by8 15 0,byy 16 0 5,by6 17 16,byy 18 1 5,by6 19 18,byx 20 To [(.t 19)],byx 21 n_gd [(.t 20)],byy 22 3 5,by6 23 22,byy 24 4 5,by6 25 24,byy 26 5 5,by6 27 26,by8 28 2,by8 29 3,oo 30 (.build [(.int .i64 0),.AB,.AB,(.int .i64 0),(.int .i64 0),(.int .i64 0),(.int .i64 0),(.int .i64 0)] [(0,1,(.t 17)),(1,1,(.c .AB)),(2,1,(.t 21)),(3,1,(.t 23)),(4,1,(.t 25)),(5,1,(.t 27)),(6,1,(.t 28)),(7,1,(.t 29))]),oo 31 (.lit false 8 1 (.agg [(.int .i64 0),(.sl []),(.sl []),(.int .i64 0),(.int .i64 0),(.int .i64 0),(.int .i64 0),(.int .i64 0)]) [(0,(.t 30))]),oo 32 (.append 8 96 (.t 15) (.t 31)),bze 0 32]
def beh:List (Nat×Nat):=[(0,1),(0,2),(0,3),(1,3),(2,3),(0,4),(1,4),(2,4),(0,5),(1,5),(2,5),(0,6),(1,6),(2,6),(0,7),(1,7),(2,7),(3,7),(4,7),(5,7),(6,7),(0,8),(1,8),(2,8),(3,8),(4,8),(5,8),(6,8),(0,9),(1,9),(2,9),(3,9),(4,9),(5,9),(6,9),(7,9),(8,9),(0,10),(1,10),(2,10),(3,10),(4,10),(5,10),(6,10),(7,10),(8,10),(0,11),(1,11),(2,11),(3,11),(4,11),(5,11),(6,11),(7,11),(8,11),(9,11),(10,11),(0,12),(1,12),(2,12),(3,12),(4,12),(5,12),(6,12),(7,12),(8,12),(9,12),(10,12),(0,13),(1,13),(2,13),(3,13),(4,13),(5,13),(6,13),(7,13),(8,13),(9,13),(10,13),(11,13),(12,13),(0,14),(1,14),(2,14),(3,14),(4,14),(5,14),(6,14),(7,14),(8,14),(9,14),(10,14),(11,14),(12,14),(13,14),(0,15),(0,16)]
def Vi:AD:= .region beg beh [0,3,5,9]
@[go_sem] theorem r_a6_2_u:Gu X K s Vi beh beg [0,3,5,9]:=Ab _ _ _ _
def RZ:=rg [
oo 10 (.asg (.c .AB))] [0,3,5,9,10]
def RY:=rg [
byy 33 2 5,by6 34 33,by5 35 false 34,oo 36 (.mv (ci 0))] [0,3,9,10,34,35,36]
def brv:=rg [
byw 37 .lss 36 35] [0,3,9,10,34,35,36,37]
def bru:=rg [
by3 38 6 34 36,by7 39 6 38,oo 12 (.alloc [(.int .i64 0),.AB,.AB,(.int .i64 0),(.int .i64 0),(.int .i64 0)]),bzd 6 12 39] [0,3,9,10,12,34,35,36]
def brt:=rg [
by8 40 10,by8 41 0,by5 42 false 41,oo 43 (.lit false 1 1 (.int .i64 0) [(0,(.t 42))]),oo 44 (.append 1 8 (.t 40) (.t 43)),bze 10 44] [0,3,9,10,12,34,35,36]
def brs:=rg [
by8 45 0,by7 46 6 12,by8 47 9,by8 48 3,byv 49 .add 48 1,oo 50 (.A9 true R6 [(.t 45),(.t 46),(.t 47),(.t 49)] 0),bze 0 50] [0,3,9,10,34,35,36]
def brr:=rg [
byv 51 .add 36 1,by8 36 51] [0,3,9,10,34,35,36]
def aac:AD:=(.seq brv (.seq (.cond (.t 37) .skip (.exit 0)) (.seq (.block 1 (.seq (.seq (.free 12) bru) (.seq brt brs))) brr)))
def bud:=by1 aac.eq_1
def tz:=rg [
by8 52 0,by8 53 9,by8 54 10,byx 55 n_gk [(.t 54)],by3 56 8 52 53,byy 57 1 56,bzd 1 57 55] [0]
def tx:=rg [
by8 58 0,bze 8 58] [8]
def UM:AD:=(.seq Rb (.seq Ra (.seq Vi (.seq RZ (.seq (.seq RY (.block 0 (.loop aac))) (.seq (.seq (.Bw [10]) tz) (.seq tx .ret)))))))
def lL:AP:=⟨4,[.t 8],UM⟩
def a_a6:AG:=⟨[32,44,50],zzz 9 [brr,brs,brt,bru,brv,RY,RZ,.ret,Ra,Rb]++[(11,[8]),(10,[0]),(2,[0,3,5,9])],[(10,[10])],[(6,[12])],[(50,0)],[]⟩
def Pw:=rg [
oo 1 (.box 6 (.t 0)),byt 2 false] [1]
def Pv:=rg [
byu 3 0,byu 4 0,byu 5 0,byt 6 false] [1,3,4,5,6]
def Pu:=rg [
byy 7 0 1,by6 8 7] [1,3,4,5,6,8]
def Pt:=rg [
byv 10 .eql 8 11,bze 9 10] [1,3,4,5,6,8,9]
def Ps:=rg [
byv 12 .eql 8 10,bze 11 12] [1,3,4,5,6,8,11]
def Pr:=rg [
byv 14 .eql 8 12,bze 13 14] [1,3,4,5,6,8,13]
def Pq:=rg [
byv 16 .eql 8 13,bze 15 16] [1,3,4,5,6,8,15]
def Pp:=rg [
byv 18 .eql 8 16,bze 17 18] [1,3,4,5,6,8,17]
def Po:=rg [
byv 19 .eql 8 17,bze 17 19] [1,3,4,5,6,8,17]
def Pn:=rg [
byv 21 .eql 8 14,bze 20 21] [1,3,4,5,6,20]
def bma:=rg [
by8 22 3,byv 23 .add 22 1,bze 3 23] [1,3,4,5,6]
def bl9:=rg [
by8 24 3,byv 25 .add 24 1,bze 3 25] [1,3,4,5,6]
@[go_sem] def ae3:Ops:=[
byy 26 1 1,by6 27 26,by5 28 false 27,byy 29 1 1,by6 30 29,by5 31 false 30,bze 3 28,bze 4 31]
def ae4:List (Nat×Nat):=[(0,3),(1,3),(2,3),(0,4),(1,4),(2,4),(0,5),(1,5),(2,5),(3,6),(4,6),(5,6)]
def bl8:AD:= .region ae3 ae4 [1,3,4,5,6]
@[go_sem] theorem r_ao_12_u:Gu X K s bl8 ae4 ae3 [1,3,4,5,6]:=Ab _ _ _ _
def bl7:=rg [
byy 32 2 1,by6 33 32,by5 34 false 33,bze 3 34] [1,3,4,5,6]
def bl6:=rg [
by8 35 3,byv 36 .lss 35 1,by8 37 36,by0 38 37 false 3,og 39 37 false (.bin .gtr (.t 38) (ci 255)),bzc 40 37 39] [1,3,4,5,6,40]
def bl5:=rg [
byt 2 false] [2]
def bl4:=rg [
byy 41 3 1,by6 42 41,bze 5 42] [1,3,4,5,6]
def bl3:=rg [
by8 43 5,byv 44 .lss 43 1,by8 45 44,by0 46 45 false 5,og 47 45 false (.bin .gtr (.t 46) (ci 4096)),bzc 48 45 47] [1,3,4,5,6,48]
def bl2:=rg [
byt 2 false] [2]
def bl1:=rg [
byt 6 true] [1,3,4,5,6]
def bl0:=rg [
byy 49 2 1,by6 50 49,by5 51 false 50,by8 52 3,byw 53 .neq 51 52,by8 54 53,og 55 54 false (.AH 1 (.t 1)),og 56 54 false (.load none (.t 55)),og 57 54 false (.len false (.t 56)),by0 58 54 false 4,og 59 54 false (.bin .neq (.t 57) (.t 58)),bzc 60 54 59,by8 61 60,og 62 61 false (.AH 3 (.t 1)),og 63 61 false (.load none (.t 62)),by0 64 61 false 5,og 65 61 false (.bin .neq (.t 63) (.t 64)),bzc 66 61 65,by8 67 66,og 68 67 false (.AH 1 (.t 1)),og 69 67 false (.load none (.t 68)),og 70 67 false (.call false TE [(.t 69)]),og 71 67 false (.un .not (.t 70)),bzc 72 67 71] [1,6,72]
def blz:=rg [
byt 2 false] [2]
def bly:=rg [
by8 73 6] [1,73]
def blx:=rg [
byy 74 4 1,by6 75 74,byv 76 .geq 75 1,by8 77 76,og 78 77 true (.AH 4 (.t 1)),og 79 77 true (.load none (.t 78)),og 80 77 true (.bin .leq (.t 79) (ci 18)),bzb 81 77 80,by8 82 81,og 83 82 true (.AH 5 (.t 1)),og 84 82 true (.load none (.t 83)),og 85 82 true (.bin .geq (.t 84) (ci 0)),bzb 86 82 85,by8 87 86,og 88 87 true (.AH 5 (.t 1)),og 89 87 true (.load none (.t 88)),og 90 87 true (.AH 4 (.t 1)),og 91 87 true (.load none (.t 90)),og 92 87 true (.bin .leq (.t 89) (.t 91)),bzb 93 87 92,bze 2 93] [2]
def blw:=rg [
byy 94 4 1,by6 95 94,byv 96 .eql 95 0,by8 97 96,og 98 97 true (.AH 5 (.t 1)),og 99 97 true (.load none (.t 98)),og 100 97 true (.bin .eql (.t 99) (ci 0)),bzb 101 97 100,bze 2 101] [2]
def Dw:AD:=(.seq Pw (.seq Pv (.seq (.seq Pu (.block 0 (.seq (.block 6 (.seq (.block 5 (.seq (.block 4 (.seq (.block 3 (.seq (.block 2 (.seq (.block 1 (.seq (.seq (.seq Pt (.cond (.t 9) (.exit 1) .skip)) (.seq (.seq Ps (.cond (.t 11) (.exit 2) .skip)) (.seq (.seq Pr (.cond (.t 13) (.exit 3) .skip)) (.seq (.seq Pq (.cond (.t 15) (.exit 4) .skip)) (.seq (.seq (.seq Pp (.cond (.t 17) .skip Po)) (.cond (.t 17) (.exit 5) .skip)) (.seq Pn (.cond (.t 20) (.exit 6) .skip))))))) (.exit 0))) bma)) (.seq bl9 (.exit 0)))) (.seq bl8 (.exit 0)))) (.seq (.seq bl7 (.seq bl6 (.cond (.t 40) (.seq bl5 .ret) .skip))) (.exit 0)))) (.seq (.seq bl4 (.seq bl3 (.cond (.t 48) (.seq bl2 .ret) .skip))) (.exit 0)))) (.seq bl1 (.exit 0))))) (.seq bl0 (.cond (.t 72) (.seq blz .ret) (.seq bly (.cond (.t 73) (.seq blx .ret) (.seq blw .ret))))))))
def kW:AP:=⟨1,[.t 2],Dw⟩
def a_ao:=zzy (zzz 24 [blw,blx,bly,blz,bl0,bl1,bl2,bl3,bl4,bl5,bl6,bl7,.ret,bl9,bma,Pn,Po,Pp,Pq,Pr,Ps,Pt,Pu,Pv,Pw]++[(12,[1,3,4,5,6])])
def Nn:=rg [
oo 3 (.box 6 (.t 0)),byu 6 0] [1,2,3]
def Nl:=rg [
by8 11 1,byv 12 .gtr 11 16,by8 13 12,by0 14 13 false 2,og 15 13 false (.GU (.t 14)),og 16 13 false (.load none (.t 15)),og 17 13 false (.bin .geq (.t 16) (ci 100)),bzc 18 13 17,bze 10 18] [1,2,3,10]
def Nk:=rg [
byu 6 4] [6]
def Nj:=rg [
byy 20 0 3,by6 21 20,byv 22 .eql 21 5,by8 23 22,og 24 23 false (.AH 0 (.t 3)),og 25 23 false (.load none (.t 24)),og 26 23 false (.bin .eql (.t 25) (ci 6)),bzc 27 23 26,bze 19 27] [1,2,3,19]
def Ni:=rg [
byu 6 5] [6]
def Nh:=rg [
byy 29 0 3,by6 30 29,byv 31 .lss 30 0,by8 32 31,og 33 32 false (.AH 0 (.t 3)),og 34 32 false (.load none (.t 33)),og 35 32 false (.bin .gtr (.t 34) (ci 17)),bzc 36 32 35,by8 37 36,og 38 37 false (.load (some 6) (.t 3)),og 39 37 false (.call false T1 [(.t 38)]),og 40 37 false (.un .not (.t 39)),bzc 41 37 40,bze 28 41] [1,2,3,28]
def Ng:=rg [
byu 6 1] [6]
def Nf:=rg [
by8 42 2,by9 43 42,by6 44 43,byv 45 .add 44 1,by9 46 42,bzd 1 46 45] [1,2,3]
def Nc:=rg [
byy 47 2 3,by6 48 47,by5 49 false 48,oo 50 (.mv (ci 0))] [1,2,48,49,50]
def bjj:=rg [
byw 51 .lss 50 49] [1,2,48,49,50,51]
def ap9:=rg [
by3 52 6 48 50,by7 53 6 52,oo 8 (.alloc [(.int .i64 0),.AB,.AB,(.int .i64 0),(.int .i64 0),(.int .i64 0)]),bzd 6 8 53] [1,2,8,48,49,50]
def ap8:=rg [
by7 54 6 8,by8 55 1,byv 56 .add 55 1,by8 57 2,byx 58 H6 [(.t 54),(.t 56),(.t 57)],bze 9 58] [1,2,9,48,49,50]
def ap7:=rg [
by8 59 9,byv 60 .neq 59 0] [1,2,9,48,49,50,60]
def ap6:=rg [
by8 61 9,bze 6 61] [6]
def ap5:=rg [
byv 62 .add 50 1,by8 50 62] [1,2,48,49,50]
def avw:AD:=(.seq bjj (.seq (.cond (.t 51) .skip (.exit 1)) (.seq (.block 2 (.seq (.seq (.free 8) ap9) (.seq ap8 (.seq ap7 (.cond (.t 60) (.seq ap6 .ret) .skip))))) ap5)))
def bue:=by1 avw.eq_1
def ap4:=rg [
byu 6 0] [6]
def G3:AD:=(.seq Nn (.seq (.block 0 (.seq Nl (.cond (.t 10) (.seq Nk .ret) (.seq Nj (.cond (.t 19) (.seq Ni .ret) (.seq Nh (.cond (.t 28) (.seq Ng .ret) .skip))))))) (.seq Nf (.seq (.seq Nc (.block 1 (.loop avw))) (.seq ap4 .ret)))))
def kF:AP:=⟨3,[.t 6],G3⟩
def a_bh:AG:=⟨[],zzz 14 [ap5,ap6,ap7,ap8,ap9,bjj,Nc,Nf,Ng,Nh,Ni,Nj,Nk,Nl,Nn]++[(15,[6])],[],[(10,[8])],[],[]⟩
def Jg:=rg [
oo 1 (.box 6 (.t 0)),byu 2 0] [1]
def Jf:=rg [
oo 3 (.alloc [(.int .i64 0)]),ow (.store 1 (.t 3) (ci 0))] [1,3]
def Je:=rg [
by7 4 6 1,byx 5 H6 [(.t 4),(ci 1),(.t 3)],bze 2 5] [2]
def Zt:AD:=(.seq Jg (.seq Jf (.seq Je .ret)))
def iD:AP:=⟨1,[.t 2],Zt⟩
def a_ew:=zzy (zzz 2 [Je,Jf,Jg])
def KW:=rg [
oo 1 (.box 6 (.t 0)),oo 2 (.asg (.c .AB))] [1]
def KV:=rg [
by7 3 6 1,byx 4 TP [(.t 3)],byv 5 .neq 4 0] [1,5]
@[go_sem] def VC:Ops:=[
oo 2 (.asg (.c .AB))]
def eV:=rg VC [2]
def KU:=rg [
by7 6 6 1,oo 7 (.A9 false R6 [(.c .AB),(.t 6),(ci (-1)),(ci 1)] 0),byx 8 n_fz [(.t 7)],bze 2 8] [2]
def Z9:AD:=(.seq KW (.seq KV (.cond (.t 5) (.seq eV .ret) (.seq KU .ret))))
def iW:AP:=⟨1,[.t 2],Z9⟩
def a_dm:AG:=⟨[],zzz 3 [KU,.ret,KV,KW]++[(2,[2])],[],[],[(7,0)],[]⟩
@[go_sem] def VN:Ops:=[
byt 0 false]
def fF:=rg VN []
@[go_sem] def VM:Ops:=[
oo 10 (.lit false 1 1 (.str []) [(0,(.c (.str [97])))]),oo 11 (.build [(.int .i64 0),.AB,.AB,(.int .i64 0),(.int .i64 0),(.int .i64 0)] [(0,1,(ci 3))]),oo 12 (.lit false 6 1 (.agg [(.int .i64 0),(.sl []),(.sl []),(.int .i64 0),(.int .i64 0),(.int .i64 0)]) [(0,(.t 11))]),oo 13 (.build [(.int .i64 0),.AB,.AB,(.int .i64 0),(.int .i64 0),(.int .i64 0)] [(0,1,(ci 12)),(1,1,(.t 10)),(2,1,(.t 12))]),oo 1 (.alloc [(.int .i64 0),.AB,.AB,(.int .i64 0),(.int .i64 0),(.int .i64 0)]),bzd 6 1 13]
def fE:=rg VM [1]
@[go_sem] def VL:Ops:=[
by7 14 6 1,byx 15 HR [(.t 14)],bze 2 15]
def fD:=rg VL [1,2]
@[go_sem] def VK:Ops:=[
by8 16 2,by5 17 false 16,byv 18 .neq 17 2]
def fC:=rg VK [1,2,18]
@[go_sem] def VJ:Ops:=[
byt 0 false]
def fB:=rg VJ [0]
@[go_sem] def VI:Ops:=[
oo 19 (.build [(.bool false),(.int .i64 0),(.int .i64 0),.AB,.AB] [(1,1,(ci 5))]),oo 20 (.build [(.bool false),(.int .i64 0),(.int .i64 0),.AB,.AB] [(1,1,(ci 5))]),oo 21 (.build [(.int .i64 0),(.bool false),(.bool false),(.bool false),(.int .i64 0),(.int .i64 0),.AB,.AB,(.bool false),(.int .i64 0),(.int .i64 0),.AB,.AB,(.bool false),(.int .i64 0)] [(0,1,(ci 1)),(2,1,(.c (.bool true))),(3,5,(.t 19)),(8,5,(.t 20)),(13,1,(.c (.bool true))),(14,1,(ci 5))]),oo 3 (.alloc [(.int .i64 0),(.bool false),(.bool false),(.bool false),(.int .i64 0),(.int .i64 0),.AB,.AB,(.bool false),(.int .i64 0),(.int .i64 0),.AB,.AB,(.bool false),(.int .i64 0)]),bzd 15 3 21]
def fA:=rg VI [1,2,3]
@[go_sem] def VH:Ops:=[
oo 23 (.build [(.int .i64 0),(.int .i64 0),(.int .i64 0),(.int .i64 0),(.int .i64 0)] [(0,1,(ci 3)),(4,1,(ci 1))]),oo 24 (.lit false 5 1 (.agg [(.int .i64 0),(.int .i64 0),(.int .i64 0),(.int .i64 0),(.int .i64 0)]) [(0,(.t 23))]),by7 25 6 1,oo 26 (.lit true 1 1 (.int .u8 0) [(0,(.c (.int .u8 118)))]),oo 27 (.cvB false (.t 26)),oo 28 (.build [(.str []),.AB] [(0,1,(.c (.str [107]))),(1,1,(.t 27))]),oo 29 (.lit false 2 1 (.agg [(.str []),(.sl [])]) [(0,(.t 28))]),oo 30 (.build [(.int .i64 0),(.bool false),(.bool false),(.bool false),(.int .i64 0),(.int .i64 0),.AB,.AB,(.bool false),(.int .i64 0),(.int .i64 0),.AB,.AB,(.bool false),(.int .i64 0)] [(0,1,(ci 1))]),by7 31 15 3,oo 32 (.lit false 15 2 (.agg [(.int .i64 0),(.bool false),(.bool false),(.bool false),(.int .i64 0),(.int .i64 0),(.sl []),(.sl []),(.bool false),(.int .i64 0),(.int .i64 0),(.sl []),(.sl []),(.bool false),(.int .i64 0)]) [(0,(.t 30)),(1,(.t 31))]),oo 33 (.build [(.int .i64 0),.AB,(.int .i64 0),.AB,.AB,(.int .i64 0),(.int .i64 0),(.int .i64 0),.AB,(.int .i64 0),.AB,(.int .i64 0)] [(0,1,(ci 7)),(1,1,(.t 24)),(2,6,(.t 25)),(8,1,(.t 29)),(9,1,(ci 1)),(10,1,(.t 32)),(11,1,(ci 10))]),byx 34 fV [(.t 33)],by8 22 34,bzf 35 22 0,bzf 36 22 1,bze 4 35,bze 5 36]
def eZ:=rg VH [1,2,3,4,5]
@[go_sem] def VG:Ops:=[
by8 38 4,byx 39 fW [(.t 38)],by8 37 39,bzf 40 37 0,bzf 41 37 1,oo 6 (.alloc [(.int .i64 0),.AB,(.int .i64 0),.AB,.AB,(.int .i64 0),(.int .i64 0),(.int .i64 0),.AB,(.int .i64 0),.AB,(.int .i64 0)]),bzd 12 6 40,bze 7 41]
def eY:=rg VG [1,2,3,5,6,7]
@[go_sem] def VE:Ops:=[
by8 43 2,oo 44 (.C6 8 (.t 43) (ci 1)),by7 45 8 44,by8 46 2,oo 47 (.C6 8 (.t 46) (ci 1)),by7 48 8 47,by7 49 15 3,byx 50 Rx [(.t 48),(.t 49)],byx 51 E6 [(.t 45),(.t 50)],by8 42 51,bzf 52 42 0,bzf 53 42 1,oo 8 (.alloc [(.int .i64 0),(.bool false),(.bool false),(.bool false),(.int .i64 0),(.int .i64 0),.AB,.AB,(.bool false),(.int .i64 0),(.int .i64 0),.AB,.AB,(.bool false),(.int .i64 0)]),bzd 15 8 52,bze 9 53]
def VF:List (Nat×Nat):=[(0,3),(1,3),(2,3),(0,4),(1,4),(2,4),(0,5),(1,5),(2,5),(0,6),(1,6),(2,6),(3,6),(4,6),(5,6),(0,7),(1,7),(2,7),(10,11),(0,12),(1,12),(2,12),(3,12),(4,12),(5,12),(6,12),(7,12),(8,12),(9,12),(10,12),(11,12),(11,13)]
def eX:AD:= .region VE VF [1,3,5,6,7,8,9]
@[go_sem] def VD:Ops:=[
by8 54 5,by8 55 7,byw 56 .add 54 55,by8 57 9,byw 58 .add 56 57,byv 59 .eql 58 0,by8 60 59,og 61 60 true (.AH 0 (.t 6)),og 62 60 true (.load none (.t 61)),og 63 60 true (.bin .eql (.t 62) (ci 7)),bzb 64 60 63,by8 65 64,og 66 65 true (.AH 1 (.t 6)),og 67 65 true (.load none (.t 66)),og 68 65 true (.len false (.t 67)),og 69 65 true (.bin .eql (.t 68) (ci 1)),bzb 70 65 69,by8 71 70,og 72 71 true (.AH 1 (.t 6)),og 73 71 true (.load none (.t 72)),og 74 71 true (.C6 5 (.t 73) (ci 0)),og 75 71 true (.AH 0 (.t 74)),og 76 71 true (.load none (.t 75)),og 77 71 true (.bin .eql (.t 76) (ci 3)),bzb 78 71 77,by8 79 78,og 80 79 true (.AH 2 (.t 6)),og 81 79 true (.load (some 6) (.t 80)),og 82 79 true (.load (some 6) (.t 1)),og 83 79 true (.call false n_gr [(.t 81),(.t 82)]),bzb 84 79 83,by8 85 84,og 86 85 true (.AH 8 (.t 6)),og 87 85 true (.load none (.t 86)),og 88 85 true (.len false (.t 87)),og 89 85 true (.bin .eql (.t 88) (ci 1)),bzb 90 85 89,by8 91 90,og 92 91 true (.AH 9 (.t 6)),og 93 91 true (.load none (.t 92)),og 94 91 true (.bin .eql (.t 93) (ci 1)),bzb 95 91 94,by8 96 95,og 97 96 true (.AH 10 (.t 6)),og 98 96 true (.load none (.t 97)),og 99 96 true (.len false (.t 98)),og 100 96 true (.bin .eql (.t 99) (ci 2)),bzb 101 96 100,by8 102 101,og 103 102 true (.AH 10 (.t 6)),og 104 102 true (.load none (.t 103)),og 105 102 true (.C6 15 (.t 104) (ci 1)),og 106 102 true (.AH 8 (.t 105)),og 107 102 true (.AH 1 (.t 106)),og 108 102 true (.load none (.t 107)),og 109 102 true (.bin .eql (.t 108) (ci 5)),bzb 110 102 109,by8 111 110,og 112 111 true (.AH 11 (.t 6)),og 113 111 true (.load none (.t 112)),og 114 111 true (.bin .eql (.t 113) (ci 10)),bzb 115 111 114,by8 116 115,og 117 116 true (.load (some 15) (.t 8)),og 118 116 true (.load (some 15) (.t 3)),og 119 116 true (.call false n_gx [(.t 117),(.t 118)]),bzb 120 116 119,bze 0 120]
def eW:=rg VD [0]
def c_cu:AD:=(.seq fF (.seq fE (.seq fD (.seq fC (.cond (.t 18) (.seq fB .ret) (.seq fA (.seq eZ (.seq eY (.seq eX (.seq eW .ret))))))))))
def i_cu:AP:=⟨0,[.t 0],c_cu⟩
def a_cu:AG:=⟨[26],[(9,[0]),(8,[1,3,5,6,7,8,9]),(7,[1,2,3,5,6,7]),(6,[1,2,3,4,5]),(5,[1,2,3]),(4,[0]),(3,[1,2,18]),(2,[1,2]),(1,[1]),(0,[])],[],[],[],[]⟩
def P7:=rg [
oo 3 (.box 6 (.t 0)),oo 4 (.box 15 (.t 1)),byt 6 false] [2,3,4]
def P6:=rg [
byx 15 Ym [],bza 16 15] [2,3,4,16]
@[go_sem] def Vf:Ops:=[
byt 6 false]
def fN:=rg Vf [6]
def P5:=rg [
by7 17 6 3,byx 18 TW [(.t 17)],bza 19 18,by8 20 19,og 21 20 false (.load (some 6) (.t 3)),og 22 20 false (.call false Ta [(.t 21)]),og 23 20 false (.bin .neq (.t 22) (ci 0)),bzc 24 20 23,by8 25 24,by0 26 25 false 2,og 27 25 false (.len false (.t 26)),og 28 25 false (.bin .gtr (.t 27) (ci 500)),bzc 29 25 28] [2,3,4,29]
def P4:=rg [
byt 6 true] [6]
def P3:=rg [
by7 30 6 3,byx 31 HR [(.t 30)],bze 7 31] [2,3,4,7]
def P2:=rg [
by8 32 7,by5 33 false 32,byv 34 .eql 33 0] [2,3,4,7,34]
@[go_sem] def Ve:Ops:=[
byt 6 false]
def fM:=rg Ve [6]
def P1:=rg [
by8 36 7,oo 37 (.C6 8 (.t 36) (ci 0)),by7 38 8 37,by8 39 2,byx 40 E6 [(.t 38),(.t 39)],by8 35 40,bzf 41 35 0,bzf 42 35 1,oo 8 (.alloc [(.int .i64 0),(.bool false),(.bool false),(.bool false),(.int .i64 0),(.int .i64 0),.AB,.AB,(.bool false),(.int .i64 0),(.int .i64 0),.AB,.AB,(.bool false),(.int .i64 0)]),bzd 15 8 41,bze 9 42] [2,3,4,7,8,9]
def P0:=rg [
by7 44 6 3,by8 45 2,byx 46 Dq [(.t 44),(.t 45)],by8 43 46,bzf 47 43 0,bzf 48 43 1,oo 10 (.alloc [(.int .i64 0),(.bool false),(.bool false),(.bool false),(.int .i64 0),(.int .i64 0),.AB,.AB,(.bool false),(.int .i64 0),(.int .i64 0),.AB,.AB,(.bool false),(.int .i64 0)]),bzd 15 10 47,bze 11 48] [3,4,7,8,9,10,11]
@[go_sem] def afk:Ops:=[
by8 49 9,by8 50 11,byw 51 .neq 49 50,by8 52 51,og 53 52 false (.load (some 15) (.t 8)),og 54 52 false (.call false HQ [(.t 53)]),og 55 52 false (.load (some 15) (.t 10)),og 56 52 false (.call false Rt [(.t 54),(.t 55)]),og 57 52 false (.un .not (.t 56)),bzc 58 52 57]
def afl:List (Nat×Nat):=[(0,1),(4,6),(5,6)]
def bmo:AD:= .region afk afl [3,4,7,58]
@[go_sem] theorem r_al_10_u:Gu X K s bmo afl afk [3,4,7,58]:=Ab _ _ _ _
@[go_sem] def bmn:Ops:=[
byt 6 false]
def Yf:=rg bmn [6]
def bmm:=rg [
by7 59 6 3,by7 60 15 4,byx 61 T7 [(.t 59),(.t 60)],bza 62 61] [3,4,7,62]
def bml:=rg [
byt 6 true] [6]
@[go_sem] def afg:Ops:=[
by8 63 7,oo 64 (.C6 8 (.t 63) (ci 0)),by7 65 8 64,by7 66 15 4,byx 67 Rx [(.t 65),(.t 66)],bze 12 67]
def afh:List (Nat×Nat):=[(0,3),(1,3),(2,3)]
def bmk:AD:= .region afg afh [3,4,7,12]
@[go_sem] theorem r_al_14_u:Gu X K s bmk afh afg [3,4,7,12]:=Ab _ _ _ _
def bmj:=rg [
by8 69 7,oo 70 (.C6 8 (.t 69) (ci 0)),by7 71 8 70,by8 72 12,byx 73 E6 [(.t 71),(.t 72)],by8 68 73,bzf 74 68 0,bzf 75 68 1,oo 13 (.alloc [(.int .i64 0),(.bool false),(.bool false),(.bool false),(.int .i64 0),(.int .i64 0),.AB,.AB,(.bool false),(.int .i64 0),(.int .i64 0),.AB,.AB,(.bool false),(.int .i64 0)]),bzd 15 13 74,bze 14 75] [3,4,12,13,14]
@[go_sem] def afd:Ops:=[
by8 76 12,oo 77 (.b2s (.t 76)),by7 78 6 3,by7 79 15 4,byx 80 HQ [(.t 79)],byx 81 T6 [(.t 78),(.t 80)],oo 82 (.b2s (.t 81)),byw 83 .eql 77 82,by8 84 83,by0 85 84 true 14,og 86 84 true (.bin .eql (.t 85) (ci 0)),bzb 87 84 86,by8 88 87,og 89 88 true (.load (some 15) (.t 13)),og 90 88 true (.call false HQ [(.t 89)]),og 91 88 true (.load (some 15) (.t 4)),og 92 88 true (.call false HQ [(.t 91)]),og 93 88 true (.call false Rt [(.t 90),(.t 92)]),bzb 94 88 93,bze 6 94]
def afe:List (Nat×Nat):=[(0,2),(1,2),(0,3),(1,3),(2,3),(0,4),(1,4),(2,4),(0,5),(1,5),(0,6),(1,6),(13,15),(14,15)]
def bmi:AD:= .region afd afe [6]
@[go_sem] theorem r_al_16_u:Gu X K s bmi afe afd [6]:=Ab _ _ _ _
def Ib:AD:=(.seq P7 (.seq P6 (.cond (.t 16) (.seq fN .ret) (.seq P5 (.cond (.t 29) (.seq P4 .ret) (.seq P3 (.seq P2 (.cond (.t 34) (.seq fM .ret) (.seq P1 (.seq P0 (.seq bmo (.cond (.t 58) (.seq Yf .ret) (.seq bmm (.cond (.t 62) (.seq bml .ret) (.seq bmk (.seq bmj (.seq bmi .ret)))))))))))))))))
def kY:AP:=⟨3,[.t 6],Ib⟩
def a_al:=zzy (zzz 15 [bmj,.ret,bml,bmm,.ret,.ret,P0,P1,.ret,P2,P3,P4,P5,.ret,P6,P7]++[(16,[6]),(14,[3,4,7,12]),(11,[6]),(10,[3,4,7,58]),(7,[6]),(2,[6])])
def tbl:List (FuncId×AP):=[(H7,kJ),(EA,Y8),(TZ,iX),(Er,Y5),(GW,Y7),(Rl,iF),(FV,Y6),(T6,lH),(TU,iJ),(T7,lJ),(FX,lK),(Rt,jG),(HQ,iH),(Tm,jV),(Tr,kD),(Ru,jH),(TV,iO),(Rw,jX),(Rv,jI),(TY,iV),(R5,kZ),(Fy,lD),(Tb,jA),(Rq,iZ),(Tn,jW),(H8,lG),(T2,kX),(Te,jD),(Gx,iS),(Rr,jE),(GX,kI),(Tv,kN),(Rp,iR),(Ro,iQ),(Rs,jF),(Gy,kG),(HY,kP),(T5,lF),(Rz,kS),(Dq,lI),(T4,lE),(Ha,kU),(Ta,iY),(HZ,kT),(TW,iP),(Tk,jS),(Tp,jZ),(Tl,jT),(Ti,jO),(TO,gY),(Tq,kB),(Gv,iC),(Tw,kO),(Td,jC),(Tc,jB),(TT,iI),(Gz,kR),(Re,gN),(HU,jQ),(TR,iE),(Rh,hP),(Tf,jJ),(Rg,gW),(Tj,jP),(TM,gX),(Th,jL),(Tu,kM),(TX,iU),(Tz,kQ),(HW,kC),(Tg,jK),(Rm,iM),(HS,jM),(TJ,gM),(TG,gJ),(Fx,iT),(FW,lB),(E6,lA),(Hz,gP),(Ts,kE),(H4,iK),(Hy,gO),(H5,jR),(T0,kV),(Ry,kK),(TL,gT),(Rk,iB),(TS,iG),(Rj,iA),(Tt,kL),(H3,gZ),(H2,gV),(TH,gK),(TK,gR),(H0,gS),(T3,lC),(HX,kH),(Rx,kA),(Rn,iN),(HT,jN),(HV,jU),(Rf,gQ),(Gw,iL),(To,jY),(R6,lL),(T1,kW),(H6,kF),(TP,iD),(HR,iW),(Ym,i_cu),(Yn,kY)]
def W6:List FuncId:=[124,123,166,165,130,120,83,85,34,81,79]
noncomputable def tab:List AF:=[⟨125,Tryz.f125,⟨[],[(1,[4]),(0,[0,1])],[],[],[],[]⟩⟩,
⟨76,Tryz.f76,⟨[],[(1,[4]),(0,[2,3])],[],[],[],[]⟩⟩,
⟨30,Tryz.f30,⟨[],[(1,[4]),(0,[2,3])],[],[],[],[]⟩⟩,
⟨29,Tryz.f29,⟨[],[(13,[4]),(10,[2,3,6]),(12,[4]),(11,[2,3,6,87]),(9,[2,3,6,73]),(8,[2,3,6]),(5,[2,3,5]),(7,[4]),(6,[2,3,5,68]),(4,[2,3,5,55]),(3,[2,3,5]),(2,[4]),(1,[2,3,50]),(0,[2,3])],[],[],[],[]⟩⟩,
⟨72,Tryz.f72,⟨[46],[(12,[4,5]),(11,[1,6,24,25,26]),(10,[1,6,24,25,26]),(9,[4,5]),(8,[1,6,9,10,24,25,26,41]),(7,[1,6,9,10,24,25,26]),(6,[1,6,7,8,24,25,26]),(5,[1,6,24,25,26,27]),(4,[1,6,24,25,26]),(3,[1,2,6]),(2,[4,5]),(1,[1,2,22]),(0,[1,2])],[],[(7,[9])],[],[]⟩⟩,
⟨71,Tryz.f71,⟨[40],[(11,[2,3]),(10,[4,18,19,20]),(9,[4,18,19,20]),(8,[4,7,9,18,19,20]),(7,[4,6,7,18,19,20]),(6,[4,6,18,19,20]),(5,[4,18,19,20,21]),(4,[4,18,19,20]),(3,[1,4]),(2,[2,3]),(1,[1,15]),(0,[1])],[],[],[],[]⟩⟩,
⟨148,Tryz.f148,⟨[73,78],[(17,[6,7]),(16,[6,9]),(15,[0,1,2,6,9,46,47,48]),(14,[0,1,2,6,9,46,47,48]),(13,[6,7]),(12,[0,1,2,6,9,12,46,47,48,67]),(11,[0,1,2,6,9,12,13,46,47,48]),(10,[6,7]),(9,[0,1,2,6,9,46,47,48,56]),(8,[0,1,2,6,9,11,46,47,48]),(7,[0,1,2,6,9,46,47,48,49]),(6,[0,1,2,6,9,46,47,48]),(5,[0,1,2,6,8,9]),(4,[0,1,2,6,8]),(3,[0,1,2,6,8]),(2,[6,7]),(1,[0,1,2,6,19]),(0,[0,1,2,6])],[],[(11,[12])],[],[]⟩⟩,
⟨122,Tryz.f122,⟨[],[(8,[2,3]),(7,[2,3]),(6,[2,5,7,25]),(5,[2,5,7]),(4,[2,3]),(3,[2,5,20]),(2,[0,2,4,5,6]),(1,[0,2,4]),(0,[0,2])],[],[],[],[]⟩⟩,
⟨147,Tryz.f147,⟨[29],[(8,[4]),(7,[1,5,8,9,10]),(6,[1,5,8,9,10]),(5,[1,5,7,8,9,10,22]),(4,[1,5,7,8,9,10]),(3,[1,5,8,9,10,11]),(2,[1,5,8,9,10]),(1,[0,1,5]),(0,[0,1])],[],[(4,[7])],[],[]⟩⟩,
⟨121,Tryz.f121,⟨[46,61],[(28,[2,3]),(27,[0,2,4,67,68,69]),(26,[2,3]),(25,[0,2,4,67,68,69,84]),(24,[0,2,4,5,67,68,69]),(23,[0,2,4,12,13,67,68,69]),(22,[0,2,4,67,68,69,70]),(21,[0,2,4,67,68,69]),(20,[0,2,4,50,51,52]),(19,[0,2,4,50,51,52]),(18,[0,2,4,11,50,51,52]),(17,[0,2,4,50,51,52,53]),(16,[0,2,4,50,51,52]),(15,[0,2,4,32,33,34]),(14,[0,2,4,32,33,34]),(13,[2,3]),(12,[0,2,4,9,32,33,34,39]),(11,[0,2,4,9,32,33,34]),(10,[0,2,4,32,33,34,35]),(9,[0,2,4,32,33,34]),(8,[2,3]),(7,[0,2,4,6,7,29]),(6,[0,2,4,6,7]),(5,[2,3]),(4,[0,2,4,21]),(3,[0,2,4,5]),(2,[0,2,4]),(1,[0,2,4]),(0,[0,2])],[],[],[],[]⟩⟩,
⟨70,Tryz.f70,⟨[29],[(12,[2,3]),(11,[2,3]),(10,[2,4,33]),(9,[2,4,11,12,13]),(8,[2,4,11,12,13]),(7,[2,3]),(6,[2,4,7,8,11,12,13,23]),(5,[2,4,7,8,11,12,13]),(4,[2,4,6,11,12,13]),(3,[2,4,11,12,13,14]),(2,[2,4,11,12,13]),(1,[1,2,4]),(0,[1,2])],[(12,[4])],[(5,[7])],[],[]⟩⟩,
⟨69,Tryz.f69,⟨[53],[(18,[2,3]),(17,[4,19,20,21]),(16,[4,19,20,21]),(15,[4,6,7,19,20,21,30,31,32]),(14,[4,6,7,19,20,21,30,31,32]),(13,[2,3]),(12,[4,6,7,9,10,19,20,21,30,31,32,45]),(11,[4,6,7,9,10,11,19,20,21,30,31,32]),(10,[4,6,7,8,9,19,20,21,30,31,32]),(9,[4,6,7,19,20,21,30,31,32,33]),(8,[4,6,7,19,20,21,30,31,32]),(7,[4,6,7,19,20,21]),(6,[4,6,19,20,21]),(5,[4,19,20,21,22]),(4,[4,19,20,21]),(3,[1,4]),(2,[2,3]),(1,[1,16]),(0,[1])],[],[(7,[7])],[],[]⟩⟩,
⟨68,Tryz.f68,⟨[],[(4,[4,5]),(3,[4,5]),(2,[6,15]),(1,[6]),(0,[0,1])],[],[],[],[]⟩⟩,
⟨67,Tryz.f67,⟨[31],[(17,[2,3]),(16,[2,4,9,10,11]),(15,[2,4,9,10,11]),(14,[2,3]),(13,[2,4,6,7,8,9,10,11,40]),(12,[2,4,6,7,8,9,10,11]),(11,[2,4,6,9,10,11]),(10,[2,4,6,9,10,11,22]),(9,[2,4,6,9,10,11,19,22]),(8,[2,4,6,9,10,11,19,22]),(7,[2,4,6,9,10,11,19,20]),(6,[2,4,6,9,10,11,19]),(5,[2,4,6,9,10,11,17]),(4,[2,4,6,9,10,11]),(3,[2,4,9,10,11,12]),(2,[2,4,9,10,11]),(1,[0,2,4]),(0,[0,2])],[],[(4,[6])],[],[]⟩⟩,
⟨22,Tryz.f22,⟨[],[(28,[2,3]),(27,[2,3]),(26,[2,7,95]),(25,[2,7,8]),(24,[2,3]),(23,[2,4,5,7,85]),(22,[2,4,5,7]),(21,[2,3]),(20,[2,4,6,7,73]),(19,[2,4,6,7,8,9]),(18,[2,4,6,7,8]),(17,[2,3]),(16,[2,4,5,6,7,53]),(15,[2,4,5,6,7]),(14,[2,3]),(13,[2,4,6,7,44]),(12,[2,4,6,7,8]),(11,[2,3]),(10,[2,4,6,7,35]),(9,[2,4,6,7,8]),(8,[2,4,6,7]),(7,[2,4,6,7]),(6,[2,3]),(5,[2,4,5,6,25]),(4,[2,4,5,6]),(3,[2,3]),(2,[2,4,5,16]),(1,[2,4,5]),(0,[0,2])],[],[],[],[]⟩⟩,
⟨19,Tryz.f19,⟨[],[(27,[4]),(26,[5,19,20,21]),(25,[5,19,20,21]),(24,[5,8,19,20,21,65,66,67]),(23,[5,8,19,20,21,65,66,67]),(22,[5,8,14,15,19,20,21,65,66,67,73]),(21,[5,8,14,15,19,20,21,65,66,67]),(20,[5,8,19,20,21,65,66,67,68]),(19,[5,8,19,20,21,65,66,67]),(18,[5,7,8,19,20,21,48,49,50]),(17,[5,7,8,19,20,21,48,49,50]),(16,[5,7,8,13,19,20,21,48,49,50]),(15,[5,7,8,19,20,21,48,49,50,51]),(14,[5,7,8,19,20,21,48,49,50]),(13,[5,7,8,19,20,21]),(12,[5,7,8,9,19,20,21,43]),(11,[5,7,8,9,19,20,21,30,31,32]),(10,[5,7,8,9,19,20,21,30,31,32]),(9,[5,7,8,9,11,19,20,21,30,31,32]),(8,[5,7,8,9,19,20,21,30,31,32,33]),(7,[5,7,8,9,19,20,21,30,31,32]),(6,[5,7,8,9,19,20,21]),(5,[5,7,8,19,20,21]),(4,[5,7,19,20,21]),(3,[5,19,20,21,22]),(2,[5,19,20,21]),(1,[3,5]),(0,[0,3])],[],[(4,[7])],[],[]⟩⟩,
⟨146,Tryz.f146,⟨[],[(1,[2]),(0,[0])],[],[],[],[]⟩⟩,
⟨164,Tryz.f164,⟨[],[(7,[4]),(6,[0,1,7,8]),(5,[4]),(4,[0,1,5,7,8,16]),(3,[0,1,5,7,8]),(2,[0,1,7,8,9]),(1,[0,1,7,8]),(0,[0,1])],[],[],[],[]⟩⟩,
⟨145,Tryz.f145,⟨[],[(1,[4]),(0,[0,1])],[],[],[],[]⟩⟩,
⟨119,Tryz.f119,⟨[],[(1,[2]),(0,[0])],[],[],[],[]⟩⟩,
⟨66,Tryz.f66,⟨[],[(1,[2]),(0,[1])],[],[],[],[]⟩⟩,
⟨65,Tryz.f65,⟨[],[(7,[4]),(6,[1,2,8,9,10]),(5,[4]),(4,[1,2,8,9,10,17]),(3,[1,2,6,8,9,10]),(2,[1,2,8,9,10,11]),(1,[1,2,8,9,10]),(0,[1,2])],[],[(3,[6])],[],[]⟩⟩,
⟨21,Tryz.f21,⟨[],[(34,[2,3]),(33,[2,3]),(32,[6,111]),(31,[6]),(30,[1,5,6,88,89,90]),(29,[1,5,6,88,89,90]),(28,[1,5,6,14,15,88,89,90]),(27,[1,5,6,88,89,90,91]),(26,[1,5,6,88,89,90]),(25,[1,5,6]),(24,[1,5,6,66,67,68]),(23,[1,5,6,66,67,68]),(22,[1,5,6,13,66,67,68]),(21,[1,5,6,66,67,68,69]),(20,[1,5,6,66,67,68]),(19,[1,5,6]),(18,[1,5,6,36,37,38]),(17,[1,5,6,36,37,38]),(16,[1,5,6,9,36,37,38,43,44,45]),(15,[1,5,6,9,36,37,38,43,44,45]),(14,[1,5,6,9,10,11,36,37,38,43,44,45]),(13,[1,5,6,9,36,37,38,43,44,45,46]),(12,[1,5,6,9,36,37,38,43,44,45]),(11,[1,5,6,8,9,36,37,38]),(10,[1,5,6,8,36,37,38]),(9,[1,5,6,36,37,38,39]),(8,[1,5,6,36,37,38]),(7,[1,5,6]),(6,[2,3]),(5,[1,5,29]),(4,[1,5]),(3,[2,3]),(2,[1,4,20]),(1,[1,4]),(0,[1])],[],[(10,[8]),(22,[13]),(28,[15])],[],[]⟩⟩]
set_option maxRecDepth 100000 in
theorem k_ba:AQ Tryz.prog a_ba Tryz.f62=some kJ:=aa2
set_option maxRecDepth 100000 in
theorem k_b0:AQ Tryz.prog a_b0 Tryz.f26=some Y8:=aa2
set_option maxRecDepth 100000 in
theorem k_dl:AQ Tryz.prog a_dl Tryz.f116=some iX:=aa2
set_option maxRecDepth 100000 in
theorem k_cw:AQ Tryz.prog a_cw Tryz.f60=some Y5:=aa2
set_option maxRecDepth 100000 in
theorem k_bv:AQ Tryz.prog a_bv Tryz.f61=some Y7:=aa2
set_option maxRecDepth 100000 in
theorem k_en:AQ Tryz.prog a_en Tryz.f75=some iF:=aa2
set_option maxRecDepth 100000 in
theorem k_cf:AQ Tryz.prog a_cf Tryz.f27=some Y6:=aa2
set_option maxRecDepth 100000 in
theorem k_ab:AQ Tryz.prog a_ab Tryz.f18=some lH:=aa2
set_option maxRecDepth 100000 in
theorem k_ef:AQ Tryz.prog a_ef Tryz.f55=some iJ:=aa2
set_option maxRecDepth 100000 in
theorem k_a8:AQ Tryz.prog a_a8 Tryz.f16=some lJ:=aa2
set_option maxRecDepth 100000 in
theorem k_a7:AQ Tryz.prog a_a7 Tryz.f54=some lK:=aa2
set_option maxRecDepth 100000 in
theorem k_d7:AQ Tryz.prog a_d7 Tryz.f14=some jG:=aa2
set_option maxRecDepth 100000 in
theorem k_ej:AQ Tryz.prog a_ej Tryz.f15=some iH:=aa2
set_option maxRecDepth 100000 in
theorem k_bx:AQ Tryz.prog a_bx Tryz.f106=some jV:=aa2
set_option maxRecDepth 100000 in
theorem k_bn:AQ Tryz.prog a_bn Tryz.f105=some kD:=aa2
set_option maxRecDepth 100000 in
theorem k_d6:AQ Tryz.prog a_d6 Tryz.f56=some jH:=aa2
set_option maxRecDepth 100000 in
theorem k_dx:AQ Tryz.prog a_dx Tryz.f140=some iO:=aa2
set_option maxRecDepth 100000 in
theorem k_bu:AQ Tryz.prog a_bu Tryz.f117=some jX:=aa2
set_option maxRecDepth 100000 in
theorem k_cy:AQ Tryz.prog a_cy Tryz.f118=some jI:=aa2
set_option maxRecDepth 100000 in
theorem k_dn:AQ Tryz.prog a_dn Tryz.f139=some iV:=aa2
set_option maxRecDepth 100000 in
theorem k_ak:AQ Tryz.prog a_ak Tryz.f104=some kZ:=aa2
set_option maxRecDepth 100000 in
theorem k_ag:AQ Tryz.prog a_ag Tryz.f53=some lD:=aa2
set_option maxRecDepth 100000 in
theorem k_dh:AQ Tryz.prog a_dh Tryz.f103=some jA:=aa2
set_option maxRecDepth 100000 in
theorem k_di:AQ Tryz.prog a_di Tryz.f138=some iZ:=aa2
set_option maxRecDepth 100000 in
theorem k_bw:AQ Tryz.prog a_bw Tryz.f102=some jW:=aa2
set_option maxRecDepth 100000 in
theorem k_ac:AQ Tryz.prog a_ac Tryz.f52=some lG:=aa2
set_option maxRecDepth 100000 in
theorem k_am:AQ Tryz.prog a_am Tryz.f51=some kX:=aa2
set_option maxRecDepth 100000 in
theorem k_db:AQ Tryz.prog a_db Tryz.f100=some jD:=aa2
set_option maxRecDepth 100000 in
theorem k_dt:AQ Tryz.prog a_dt Tryz.f49=some iS:=aa2
set_option maxRecDepth 100000 in
theorem k_da:AQ Tryz.prog a_da Tryz.f48=some jE:=aa2
set_option maxRecDepth 100000 in
theorem k_bb:AQ Tryz.prog a_bb Tryz.f50=some kI:=aa2
set_option maxRecDepth 100000 in
theorem k_b5:AQ Tryz.prog a_b5 Tryz.f47=some kN:=aa2
set_option maxRecDepth 100000 in
theorem k_du:AQ Tryz.prog a_du Tryz.f99=some iR:=aa2
set_option maxRecDepth 100000 in
theorem k_dv:AQ Tryz.prog a_dv Tryz.f46=some iQ:=aa2
set_option maxRecDepth 100000 in
theorem k_d8:AQ Tryz.prog a_d8 Tryz.f45=some jF:=aa2
set_option maxRecDepth 100000 in
theorem k_bg:AQ Tryz.prog a_bg Tryz.f44=some kG:=aa2
set_option maxRecDepth 100000 in
theorem k_ay:AQ Tryz.prog a_ay Tryz.f101=some kP:=aa2
set_option maxRecDepth 100000 in
theorem k_ae:AQ Tryz.prog a_ae Tryz.f98=some lF:=aa2
set_option maxRecDepth 100000 in
theorem k_av:AQ Tryz.prog a_av Tryz.f43=some kS:=aa2
set_option maxRecDepth 100000 in
theorem k_aa:AQ Tryz.prog a_aa Tryz.f13=some lI:=aa2
set_option maxRecDepth 100000 in
theorem k_af:AQ Tryz.prog a_af Tryz.f77=some lE:=aa2
set_option maxRecDepth 100000 in
theorem k_aq:AQ Tryz.prog a_aq Tryz.f32=some kU:=aa2
set_option maxRecDepth 100000 in
theorem k_dj:AQ Tryz.prog a_dj Tryz.f10=some iY:=aa2
set_option maxRecDepth 100000 in
theorem k_au:AQ Tryz.prog a_au Tryz.f31=some kT:=aa2
set_option maxRecDepth 100000 in
theorem k_dw:AQ Tryz.prog a_dw Tryz.f9=some iP:=aa2
set_option maxRecDepth 100000 in
theorem k_cd:AQ Tryz.prog a_cd Tryz.f97=some jS:=aa2
set_option maxRecDepth 100000 in
theorem k_br:AQ Tryz.prog a_br Tryz.f96=some jZ:=aa2
set_option maxRecDepth 100000 in
theorem k_cc:AQ Tryz.prog a_cc Tryz.f137=some jT:=aa2
set_option maxRecDepth 100000 in
theorem k_cm:AQ Tryz.prog a_cm Tryz.f95=some jO:=aa2
set_option maxRecDepth 100000 in
theorem k_fe:AQ Tryz.prog a_fe Tryz.f136=some gY:=aa2
set_option maxRecDepth 100000 in
theorem k_bp:AQ Tryz.prog a_bp Tryz.f135=some kB:=aa2
set_option maxRecDepth 100000 in
theorem k_ey:AQ Tryz.prog a_ey Tryz.f134=some iC:=aa2
set_option maxRecDepth 100000 in
theorem k_az:AQ Tryz.prog a_az Tryz.f94=some kO:=aa2
set_option maxRecDepth 100000 in
theorem k_de:AQ Tryz.prog a_de Tryz.f133=some jC:=aa2
set_option maxRecDepth 100000 in
theorem k_df:AQ Tryz.prog a_df Tryz.f132=some jB:=aa2
set_option maxRecDepth 100000 in
theorem k_eh:AQ Tryz.prog a_eh Tryz.f93=some iI:=aa2
set_option maxRecDepth 100000 in
theorem k_aw:AQ Tryz.prog a_aw Tryz.f41=some kR:=aa2
set_option maxRecDepth 100000 in
theorem k_fq:AQ Tryz.prog a_fq Tryz.f42=some gN:=aa2
set_option maxRecDepth 100000 in
theorem k_ck:AQ Tryz.prog a_ck Tryz.f92=some jQ:=aa2
set_option maxRecDepth 100000 in
theorem k_er:AQ Tryz.prog a_er Tryz.f156=some iE:=aa2
set_option maxRecDepth 100000 in
theorem k_fb:AQ Tryz.prog a_fb Tryz.f171=some hP:=aa2
set_option maxRecDepth 100000 in
theorem k_cx:AQ Tryz.prog a_cx Tryz.f155=some jJ:=aa2
set_option maxRecDepth 100000 in
theorem k_fg:AQ Tryz.prog a_fg Tryz.f154=some gW:=aa2
set_option maxRecDepth 100000 in
theorem k_cl:AQ Tryz.prog a_cl Tryz.f168=some jP:=aa2
set_option maxRecDepth 100000 in
theorem k_ff:AQ Tryz.prog a_ff Tryz.f153=some gX:=aa2
set_option maxRecDepth 100000 in
theorem k_cr:AQ Tryz.prog a_cr Tryz.f177=some jL:=aa2
set_option maxRecDepth 100000 in
theorem k_b6:AQ Tryz.prog a_b6 Tryz.f167=some kM:=aa2
set_option maxRecDepth 100000 in
theorem k_dq:AQ Tryz.prog a_dq Tryz.f152=some iU:=aa2
set_option maxRecDepth 100000 in
theorem k_ax:AQ Tryz.prog a_ax Tryz.f131=some kQ:=aa2
set_option maxRecDepth 100000 in
theorem k_bo:AQ Tryz.prog a_bo Tryz.f91=some kC:=aa2
set_option maxRecDepth 100000 in
theorem k_ct:AQ Tryz.prog a_ct Tryz.f88=some jK:=aa2
set_option maxRecDepth 100000 in
theorem k_dz:AQ Tryz.prog a_dz Tryz.f89=some iM:=aa2
set_option maxRecDepth 100000 in
theorem k_cq:AQ Tryz.prog a_cq Tryz.f87=some jM:=aa2
set_option maxRecDepth 100000 in
theorem k_ft:AQ Tryz.prog a_ft Tryz.f151=some gM:=aa2
set_option maxRecDepth 100000 in
theorem k_fv:AQ Tryz.prog a_fv Tryz.f129=some gJ:=aa2
set_option maxRecDepth 100000 in
theorem k_dr:AQ Tryz.prog a_dr Tryz.f86=some iT:=aa2
set_option maxRecDepth 100000 in
theorem k_ai:AQ Tryz.prog a_ai Tryz.f40=some lB:=aa2
set_option maxRecDepth 100000 in
theorem k_aj:AQ Tryz.prog a_aj Tryz.f12=some lA:=aa2
set_option maxRecDepth 100000 in
theorem k_fo:AQ Tryz.prog a_fo Tryz.f39=some gP:=aa2
set_option maxRecDepth 100000 in
theorem k_bm:AQ Tryz.prog a_bm Tryz.f90=some kE:=aa2
set_option maxRecDepth 100000 in
theorem k_ed:AQ Tryz.prog a_ed Tryz.f84=some iK:=aa2
set_option maxRecDepth 100000 in
theorem k_fp:AQ Tryz.prog a_fp Tryz.f37=some gO:=aa2
set_option maxRecDepth 100000 in
theorem k_ce:AQ Tryz.prog a_ce Tryz.f127=some jR:=aa2
set_option maxRecDepth 100000 in
theorem k_ap:AQ Tryz.prog a_ap Tryz.f82=some kV:=aa2
set_option maxRecDepth 100000 in
theorem k_b9:AQ Tryz.prog a_b9 Tryz.f36=some kK:=aa2
set_option maxRecDepth 100000 in
theorem k_fi:AQ Tryz.prog a_fi Tryz.f115=some gT:=aa2
set_option maxRecDepth 100000 in
theorem k_ez:AQ Tryz.prog a_ez Tryz.f114=some iB:=aa2
set_option maxRecDepth 100000 in
theorem k_em:AQ Tryz.prog a_em Tryz.f113=some iG:=aa2
set_option maxRecDepth 100000 in
theorem k_fa:AQ Tryz.prog a_fa Tryz.f143=some iA:=aa2
set_option maxRecDepth 100000 in
theorem k_b7:AQ Tryz.prog a_b7 Tryz.f112=some kL:=aa2
set_option maxRecDepth 100000 in
theorem k_fc:AQ Tryz.prog a_fc Tryz.f111=some gZ:=aa2
set_option maxRecDepth 100000 in
theorem k_fh:AQ Tryz.prog a_fh Tryz.f110=some gV:=aa2
set_option maxRecDepth 100000 in
theorem k_fu:AQ Tryz.prog a_fu Tryz.f141=some gK:=aa2
set_option maxRecDepth 100000 in
theorem k_fk:AQ Tryz.prog a_fk Tryz.f109=some gR:=aa2
set_option maxRecDepth 100000 in
theorem k_fj:AQ Tryz.prog a_fj Tryz.f108=some gS:=aa2
set_option maxRecDepth 100000 in
theorem k_ah:AQ Tryz.prog a_ah Tryz.f59=some lC:=aa2
set_option maxRecDepth 100000 in
theorem k_bc:AQ Tryz.prog a_bc Tryz.f38=some kH:=aa2
set_option maxRecDepth 100000 in
theorem k_bq:AQ Tryz.prog a_bq Tryz.f17=some kA:=aa2
set_option maxRecDepth 100000 in
theorem k_dy:AQ Tryz.prog a_dy Tryz.f58=some iN:=aa2
set_option maxRecDepth 100000 in
theorem k_co:AQ Tryz.prog a_co Tryz.f64=some jN:=aa2
set_option maxRecDepth 100000 in
theorem k_bz:AQ Tryz.prog a_bz Tryz.f63=some jU:=aa2
set_option maxRecDepth 100000 in
theorem k_fm:AQ Tryz.prog a_fm Tryz.f107=some gQ:=aa2
set_option maxRecDepth 100000 in
theorem k_ec:AQ Tryz.prog a_ec Tryz.f57=some iL:=aa2
set_option maxRecDepth 100000 in
theorem k_bt:AQ Tryz.prog a_bt Tryz.f80=some jY:=aa2
set_option maxRecDepth 100000 in
theorem k_a6:AQ Tryz.prog a_a6 Tryz.f35=some lL:=aa2
set_option maxRecDepth 100000 in
theorem k_ao:AQ Tryz.prog a_ao Tryz.f126=some kW:=aa2
set_option maxRecDepth 100000 in
theorem k_bh:AQ Tryz.prog a_bh Tryz.f78=some kF:=aa2
set_option maxRecDepth 100000 in
theorem k_ew:AQ Tryz.prog a_ew Tryz.f33=some iD:=aa2
set_option maxRecDepth 100000 in
theorem k_dm:AQ Tryz.prog a_dm Tryz.f11=some iW:=aa2
set_option maxRecDepth 100000 in
theorem k_cu:AQ Tryz.prog a_cu Tryz.f8=some i_cu:=aa2
set_option maxRecDepth 100000 in
theorem k_al:AQ Tryz.prog a_al Tryz.f3=some kY:=aa2
theorem eA:Entries Tryz.prog tbl:=
 .cons (.of Tryz.func62 aa2 k_ba) <|
 .cons (.of Tryz.func26 aa2 k_b0) <|
 .cons (.of Tryz.func116 aa2 k_dl) <|
 .cons (.of Tryz.func60 aa2 k_cw) <|
 .cons (.of Tryz.func61 aa2 k_bv) <|
 .cons (.of Tryz.func75 aa2 k_en) <|
 .cons (.of Tryz.func27 aa2 k_cf) <|
 .cons (.of Tryz.func18 aa2 k_ab) <|
 .cons (.of Tryz.func55 aa2 k_ef) <|
 .cons (.of Tryz.func16 aa2 k_a8) <|
 .cons (.of Tryz.func54 aa2 k_a7) <|
 .cons (.of Tryz.func14 aa2 k_d7) <|
 .cons (.of Tryz.func15 aa2 k_ej) <|
 .cons (.of Tryz.func106 aa2 k_bx) <|
 .cons (.of Tryz.func105 aa2 k_bn) <|
 .cons (.of Tryz.func56 aa2 k_d6) <|
 .cons (.of Tryz.func140 aa2 k_dx) <|
 .cons (.of Tryz.func117 aa2 k_bu) <|
 .cons (.of Tryz.func118 aa2 k_cy) <|
 .cons (.of Tryz.func139 aa2 k_dn) <|
 .cons (.of Tryz.func104 aa2 k_ak) <|
 .cons (.of Tryz.func53 aa2 k_ag) <|
 .cons (.of Tryz.func103 aa2 k_dh) <|
 .cons (.of Tryz.func138 aa2 k_di) <|
 .cons (.of Tryz.func102 aa2 k_bw) <|
 .cons (.of Tryz.func52 aa2 k_ac) <|
 .cons (.of Tryz.func51 aa2 k_am) <|
 .cons (.of Tryz.func100 aa2 k_db) <|
 .cons (.of Tryz.func49 aa2 k_dt) <|
 .cons (.of Tryz.func48 aa2 k_da) <|
 .cons (.of Tryz.func50 aa2 k_bb) <|
 .cons (.of Tryz.func47 aa2 k_b5) <|
 .cons (.of Tryz.func99 aa2 k_du) <|
 .cons (.of Tryz.func46 aa2 k_dv) <|
 .cons (.of Tryz.func45 aa2 k_d8) <|
 .cons (.of Tryz.func44 aa2 k_bg) <|
 .cons (.of Tryz.func101 aa2 k_ay) <|
 .cons (.of Tryz.func98 aa2 k_ae) <|
 .cons (.of Tryz.func43 aa2 k_av) <|
 .cons (.of Tryz.func13 aa2 k_aa) <|
 .cons (.of Tryz.func77 aa2 k_af) <|
 .cons (.of Tryz.func32 aa2 k_aq) <|
 .cons (.of Tryz.func10 aa2 k_dj) <|
 .cons (.of Tryz.func31 aa2 k_au) <|
 .cons (.of Tryz.func9 aa2 k_dw) <|
 .cons (.of Tryz.func97 aa2 k_cd) <|
 .cons (.of Tryz.func96 aa2 k_br) <|
 .cons (.of Tryz.func137 aa2 k_cc) <|
 .cons (.of Tryz.func95 aa2 k_cm) <|
 .cons (.of Tryz.func136 aa2 k_fe) <|
 .cons (.of Tryz.func135 aa2 k_bp) <|
 .cons (.of Tryz.func134 aa2 k_ey) <|
 .cons (.of Tryz.func94 aa2 k_az) <|
 .cons (.of Tryz.func133 aa2 k_de) <|
 .cons (.of Tryz.func132 aa2 k_df) <|
 .cons (.of Tryz.func93 aa2 k_eh) <|
 .cons (.of Tryz.func41 aa2 k_aw) <|
 .cons (.of Tryz.func42 aa2 k_fq) <|
 .cons (.of Tryz.func92 aa2 k_ck) <|
 .cons (.of Tryz.func156 aa2 k_er) <|
 .cons (.of Tryz.func171 aa2 k_fb) <|
 .cons (.of Tryz.func155 aa2 k_cx) <|
 .cons (.of Tryz.func154 aa2 k_fg) <|
 .cons (.of Tryz.func168 aa2 k_cl) <|
 .cons (.of Tryz.func153 aa2 k_ff) <|
 .cons (.of Tryz.func177 aa2 k_cr) <|
 .cons (.of Tryz.func167 aa2 k_b6) <|
 .cons (.of Tryz.func152 aa2 k_dq) <|
 .cons (.of Tryz.func131 aa2 k_ax) <|
 .cons (.of Tryz.func91 aa2 k_bo) <|
 .cons (.of Tryz.func88 aa2 k_ct) <|
 .cons (.of Tryz.func89 aa2 k_dz) <|
 .cons (.of Tryz.func87 aa2 k_cq) <|
 .cons (.of Tryz.func151 aa2 k_ft) <|
 .cons (.of Tryz.func129 aa2 k_fv) <|
 .cons (.of Tryz.func86 aa2 k_dr) <|
 .cons (.of Tryz.func40 aa2 k_ai) <|
 .cons (.of Tryz.func12 aa2 k_aj) <|
 .cons (.of Tryz.func39 aa2 k_fo) <|
 .cons (.of Tryz.func90 aa2 k_bm) <|
 .cons (.of Tryz.func84 aa2 k_ed) <|
 .cons (.of Tryz.func37 aa2 k_fp) <|
 .cons (.of Tryz.func127 aa2 k_ce) <|
 .cons (.of Tryz.func82 aa2 k_ap) <|
 .cons (.of Tryz.func36 aa2 k_b9) <|
 .cons (.of Tryz.func115 aa2 k_fi) <|
 .cons (.of Tryz.func114 aa2 k_ez) <|
 .cons (.of Tryz.func113 aa2 k_em) <|
 .cons (.of Tryz.func143 aa2 k_fa) <|
 .cons (.of Tryz.func112 aa2 k_b7) <|
 .cons (.of Tryz.func111 aa2 k_fc) <|
 .cons (.of Tryz.func110 aa2 k_fh) <|
 .cons (.of Tryz.func141 aa2 k_fu) <|
 .cons (.of Tryz.func109 aa2 k_fk) <|
 .cons (.of Tryz.func108 aa2 k_fj) <|
 .cons (.of Tryz.func59 aa2 k_ah) <|
 .cons (.of Tryz.func38 aa2 k_bc) <|
 .cons (.of Tryz.func17 aa2 k_bq) <|
 .cons (.of Tryz.func58 aa2 k_dy) <|
 .cons (.of Tryz.func64 aa2 k_co) <|
 .cons (.of Tryz.func63 aa2 k_bz) <|
 .cons (.of Tryz.func107 aa2 k_fm) <|
 .cons (.of Tryz.func57 aa2 k_ec) <|
 .cons (.of Tryz.func80 aa2 k_bt) <|
 .cons (.of Tryz.func35 aa2 k_a6) <|
 .cons (.of Tryz.func126 aa2 k_ao) <|
 .cons (.of Tryz.func78 aa2 k_bh) <|
 .cons (.of Tryz.func33 aa2 k_ew) <|
 .cons (.of Tryz.func11 aa2 k_dm) <|
 .cons (.of Tryz.func8 aa2 k_cu) <|
 .cons (.of Tryz.func3 aa2 k_al) <|
 .nil
theorem eB:Sd Tryz.prog tab:=
 .cons Tryz.func125 aa2 <|
 .cons Tryz.func76 aa2 <|
 .cons Tryz.func30 aa2 <|
 .cons Tryz.func29 aa2 <|
 .cons Tryz.func72 aa2 <|
 .cons Tryz.func71 aa2 <|
 .cons Tryz.func148 aa2 <|
 .cons Tryz.func122 aa2 <|
 .cons Tryz.func147 aa2 <|
 .cons Tryz.func121 aa2 <|
 .cons Tryz.func70 aa2 <|
 .cons Tryz.func69 aa2 <|
 .cons Tryz.func68 aa2 <|
 .cons Tryz.func67 aa2 <|
 .cons Tryz.func22 aa2 <|
 .cons Tryz.func19 aa2 <|
 .cons Tryz.func146 aa2 <|
 .cons Tryz.func164 aa2 <|
 .cons Tryz.func145 aa2 <|
 .cons Tryz.func119 aa2 <|
 .cons Tryz.func66 aa2 <|
 .cons Tryz.func65 aa2 <|
 .cons Tryz.func21 aa2 <|
 .nil
def exts:FuncId→Option (List D→Option V):=fun f=>if f=TE then some (v8) else if f=V5 then some (HB) else if f=TF then some (qj) else if f=V2 then some (HA) else if f=V3 then some (s7) else if f=V1 then some (sz) else if f=TQ then some (UX Rc) else none
def WI:FuncId→Option (List D→Option (List (List D))):=fun f=>if f=Rc then some (xg 5) else none
def Vo:Array Value:=(Lib.pow10Tab.map fun z=>Value.int .u64 z).toArray
def WN:Nat→Option (Array Value):=fun n=>if n=0 then some Vo else none
def chgs:FuncId→Option (List (Nat×Nat)):=fun f=>if f=HU then some ([(0,9)]) else if f=H2 then some ([(2,0)]) else none
noncomputable def cfg:Cfg:={funcs:=Wf Tryz.prog tbl tab,R7:=fun _ _=>none,IL:=fun _=>none,B1:=WN,HF:=fun _=>false,clip:=fun f=>W6.contains f,ext:=exts,iter:=WI,chg:=chgs}
noncomputable abbrev Hk:Kx:=fx cfg 0 [.t 4]
theorem e_ba:Oe cfg H7 2 [.t 4] SQ:=fun _ _ _=>ab (fn:=kJ) rfl rfl _ _ _
theorem o_ba (x0 x1:D):Of Hk H7 [.d x0,.d x1] SQ:=e_ba 0 _ _ rfl rfl
noncomputable abbrev bR:Kx:=fx cfg 0 [.t 6]
theorem e_b0:Oe cfg EA 3 [.t 6] UJ:=fun _ _ _=>ab (fn:=Y8) rfl rfl _ _ _
theorem o_b0 (x0 x1 x2:D):Of bR EA [.d x0,.d x1,.d x2] UJ:=e_b0 0 _ _ rfl rfl
noncomputable abbrev oI:Kx:=fx cfg 0 [.t 2]
theorem e_dl:Oe cfg TZ 1 [.t 2] XJ:=fun _ _ _=>ab (fn:=iX) rfl rfl _ _ _
theorem o_dl (x0:D):Of oI TZ [.d x0] XJ:=e_dl 0 _ _ rfl rfl
noncomputable abbrev bP:Kx:=fx cfg 0 [.t 6]
theorem e_cw:Oe cfg Er 3 [.t 6] UF:=fun _ _ _=>ab (fn:=Y5) rfl rfl _ _ _
theorem o_cw (x0 x1 x2:D):Of bP Er [.d x0,.d x1,.d x2] UF:=e_cw 0 _ _ rfl rfl
noncomputable abbrev Hj:Kx:=fx cfg 0 [.t 4]
theorem e_bv:Oe cfg GW 2 [.t 4] SP:=fun _ _ _=>ab (fn:=Y7) rfl rfl _ _ _
theorem o_bv (x0 x1:D):Of Hj GW [.d x0,.d x1] SP:=e_bv 0 _ _ rfl rfl
noncomputable abbrev X_en:Kx:=fx cfg 0 [.t 2]
theorem e_en:Oe cfg Rl 1 [.t 2] Zu:=fun _ _ _=>ab (fn:=iF) rfl rfl _ _ _
theorem o_en (x0:D):Of X_en Rl [.d x0] Zu:=e_en 0 _ _ rfl rfl
noncomputable abbrev bQ:Kx:=fx cfg 0 [.t 6]
theorem e_cf:Oe cfg FV 3 [.t 6] UH:=fun _ _ _=>ab (fn:=Y6) rfl rfl _ _ _
theorem o_cf (x0 x1 x2:D):Of bQ FV [.d x0,.d x1,.d x2] UH:=e_cf 0 _ _ rfl rfl
noncomputable abbrev Ao:Kx:=fx cfg 0 [.t 4]
theorem e_ab:Oe cfg T6 2 [.t 4] Am:=fun _ _ _=>ab (fn:=lH) rfl rfl _ _ _
theorem o_ab (x0 x1:D):Of Ao T6 [.d x0,.d x1] Am:=e_ab 0 _ _ rfl rfl
noncomputable abbrev X_ef:Kx:=fx cfg 0 [.t 2]
theorem e_ef:Oe cfg TU 1 [.t 2] Zy:=fun _ _ _=>ab (fn:=iJ) rfl rfl _ _ _
theorem o_ef (x0:D):Of X_ef TU [.d x0] Zy:=e_ef 0 _ _ rfl rfl
noncomputable abbrev DE:Kx:=fx cfg 0 [.t 4]
theorem e_a8:Oe cfg T7 2 [.t 4] Fe:=fun _ _ _=>ab (fn:=lJ) rfl rfl _ _ _
theorem o_a8 (x0 x1:D):Of DE T7 [.d x0,.d x1] Fe:=e_a8 0 _ _ rfl rfl
noncomputable abbrev Gq:Kx:=fx cfg 0 [.t 4]
theorem e_a7:Oe cfg FX 2 [.t 4] Hh:=fun _ _ _=>ab (fn:=lK) rfl rfl _ _ _
theorem o_a7 (x0 x1:D):Of Gq FX [.d x0,.d x1] Hh:=e_a7 0 _ _ rfl rfl
noncomputable abbrev X_d7:Kx:=fx cfg 0 [.t 4]
theorem e_d7:Oe cfg Rt 2 [.t 4] aG:=fun _ _ _=>ab (fn:=jG) rfl rfl _ _ _
theorem o_d7 (x0 x1:D):Of X_d7 Rt [.d x0,.d x1] aG:=e_d7 0 _ _ rfl rfl
noncomputable abbrev X_ej:Kx:=fx cfg 0 [.cell 2 (some 15)]
theorem e_ej:Oe cfg HQ 1 [.cell 2 (some 15)] Zw:=fun _ _ _=>ab (fn:=iH) rfl rfl _ _ _
theorem o_ej (x0:D):Of X_ej HQ [.d x0] Zw:=e_ej 0 _ _ rfl rfl
noncomputable abbrev Xk:Kx:=fx cfg 0 [.cell 6 (some 6)]
theorem e_bx:Oe cfg Tm 3 [.cell 6 (some 6)] SO:=fun _ _ _=>ab (fn:=jV) rfl rfl _ _ _
theorem o_bx (x0 x1 x2:D):Of Xk Tm [.d x0,.d x1,.d x2] SO:=e_bx 0 _ _ rfl rfl
noncomputable abbrev Sa:Kx:=fx cfg 0 [.t 2]
theorem e_bn:Oe cfg Tr 1 [.t 2] aS:=fun _ _ _=>ab (fn:=kD) rfl rfl _ _ _
theorem o_bn (x0:D):Of Sa Tr [.d x0] aS:=e_bn 0 _ _ rfl rfl
noncomputable abbrev X_d6:Kx:=fx cfg 0 [.t 2]
theorem e_d6:Oe cfg Ru 1 [.t 2] aH:=fun _ _ _=>ab (fn:=jH) rfl rfl _ _ _
theorem o_d6 (x0:D):Of X_d6 Ru [.d x0] aH:=e_d6 0 _ _ rfl rfl
noncomputable abbrev X_dx:Kx:=fx cfg 0 [.t 4]
theorem e_dx:Oe cfg TV 2 [.t 4] Z2:=fun _ _ _=>ab (fn:=iO) rfl rfl _ _ _
theorem o_dx (x0 x1:D):Of X_dx TV [.d x0,.d x1] Z2:=e_dx 0 _ _ rfl rfl
noncomputable abbrev Xl:Kx:=fx cfg 0 [.t 2]
theorem e_bu:Oe cfg Rw 1 [.t 2] aP:=fun _ _ _=>ab (fn:=jX) rfl rfl _ _ _
theorem o_bu (x0:D):Of Xl Rw [.d x0] aP:=e_bu 0 _ _ rfl rfl
noncomputable abbrev X_cy:Kx:=fx cfg 0 [.t 2]
theorem e_cy:Oe cfg Rv 1 [.t 2] aI:=fun _ _ _=>ab (fn:=jI) rfl rfl _ _ _
theorem o_cy (x0:D):Of X_cy Rv [.d x0] aI:=e_cy 0 _ _ rfl rfl
noncomputable abbrev X_dn:Kx:=fx cfg 0 [.t 2]
theorem e_dn:Oe cfg TY 1 [.t 2] Z8:=fun _ _ _=>ab (fn:=iV) rfl rfl _ _ _
theorem o_dn (x0:D):Of X_dn TY [.d x0] Z8:=e_dn 0 _ _ rfl rfl
noncomputable abbrev X_ak:Kx:=fx cfg 0 [.t 6]
theorem e_ak:Oe cfg R5 3 [.t 6] bA:=fun _ _ _=>ab (fn:=kZ) rfl rfl _ _ _
theorem o_ak (x0 x1 x2:D):Of X_ak R5 [.d x0,.d x1,.d x2] bA:=e_ak 0 _ _ rfl rfl
noncomputable abbrev Io:Kx:=fx cfg 0 [.t 4]
theorem e_ag:Oe cfg Fy 2 [.t 4] UK:=fun _ _ _=>ab (fn:=lD) rfl rfl _ _ _
theorem o_ag (x0 x1:D):Of Io Fy [.d x0,.d x1] UK:=e_ag 0 _ _ rfl rfl
noncomputable abbrev UO:Kx:=fx cfg 0 [.t 4,.t 5]
theorem e_dh:Oe cfg Tb 2 [.t 4,.t 5] IY:=fun _ _ _=>ab (fn:=jA) rfl rfl _ _ _
theorem o_dh (x0 x1:D):Of UO Tb [.d x0,.d x1] IY:=e_dh 0 _ _ rfl rfl
noncomputable abbrev X_di:Kx:=fx cfg 0 [.t 2]
theorem e_di:Oe cfg Rq 1 [.t 2] aB:=fun _ _ _=>ab (fn:=iZ) rfl rfl _ _ _
theorem o_di (x0:D):Of X_di Rq [.d x0] aB:=e_di 0 _ _ rfl rfl
noncomputable abbrev G6:Kx:=fx cfg 0 [.t 4,.t 5]
theorem e_bw:Oe cfg Tn 2 [.t 4,.t 5] F7:=fun _ _ _=>ab (fn:=jW) rfl rfl _ _ _
theorem o_bw (x0 x1:D):Of G6 Tn [.d x0,.d x1] F7:=e_bw 0 _ _ rfl rfl
noncomputable abbrev Bb:Kx:=fx cfg 0 [.t 4,.t 5]
theorem e_ac:Oe cfg H8 2 [.t 4,.t 5] UL:=fun _ _ _=>ab (fn:=lG) rfl rfl _ _ _
theorem o_ac (x0 x1:D):Of Bb H8 [.d x0,.d x1] UL:=e_ac 0 _ _ rfl rfl
noncomputable abbrev D0:Kx:=fx cfg 0 [.t 4,.t 5]
theorem e_am:Oe cfg T2 2 [.t 4,.t 5] an:=fun _ _ _=>ab (fn:=kX) rfl rfl _ _ _
theorem o_am (x0 x1:D):Of D0 T2 [.d x0,.d x1] an:=e_am 0 _ _ rfl rfl
noncomputable abbrev oJ:Kx:=fx cfg 0 [.t 2]
theorem e_db:Oe cfg Te 1 [.t 2] XK:=fun _ _ _=>ab (fn:=jD) rfl rfl _ _ _
theorem o_db (x0:D):Of oJ Te [.d x0] XK:=e_db 0 _ _ rfl rfl
noncomputable abbrev X_dt:Kx:=fx cfg 0 [.t 4,.t 5]
theorem e_dt:Oe cfg Gx 2 [.t 4,.t 5] Z6:=fun _ _ _=>ab (fn:=iS) rfl rfl _ _ _
theorem o_dt (x0 x1:D):Of X_dt Gx [.d x0,.d x1] Z6:=e_dt 0 _ _ rfl rfl
noncomputable abbrev X_da:Kx:=fx cfg 0 [.t 2,.t 3,.t 4,.t 5]
theorem e_da:Oe cfg Rr 1 [.t 2,.t 3,.t 4,.t 5] aE:=fun _ _ _=>ab (fn:=jE) rfl rfl _ _ _
theorem o_da (x0:D):Of X_da Rr [.d x0] aE:=e_da 0 _ _ rfl rfl
noncomputable abbrev Il:Kx:=fx cfg 0 [.t 4,.t 5]
theorem e_bb:Oe cfg GX 2 [.t 4,.t 5] aW:=fun _ _ _=>ab (fn:=kI) rfl rfl _ _ _
theorem o_bb (x0 x1:D):Of Il GX [.d x0,.d x1] aW:=e_bb 0 _ _ rfl rfl
noncomputable abbrev oP:Kx:=fx cfg 0 [.t 4,.t 5,.t 6]
theorem e_b5:Oe cfg Tv 2 [.t 4,.t 5,.t 6] XR:=fun _ _ _=>ab (fn:=kN) rfl rfl _ _ _
theorem o_b5 (x0 x1:D):Of oP Tv [.d x0,.d x1] XR:=e_b5 0 _ _ rfl rfl
noncomputable abbrev X_du:Kx:=fx cfg 0 [.t 2]
theorem e_du:Oe cfg Rp 1 [.t 2] Z5:=fun _ _ _=>ab (fn:=iR) rfl rfl _ _ _
theorem o_du (x0:D):Of X_du Rp [.d x0] Z5:=e_du 0 _ _ rfl rfl
noncomputable abbrev X_dv:Kx:=fx cfg 0 [.t 2]
theorem e_dv:Oe cfg Ro 1 [.t 2] Z4:=fun _ _ _=>ab (fn:=iQ) rfl rfl _ _ _
theorem o_dv (x0:D):Of X_dv Ro [.d x0] Z4:=e_dv 0 _ _ rfl rfl
noncomputable abbrev X_d8:Kx:=fx cfg 0 [.t 2]
theorem e_d8:Oe cfg Rs 1 [.t 2] aF:=fun _ _ _=>ab (fn:=jF) rfl rfl _ _ _
theorem o_d8 (x0:D):Of X_d8 Rs [.d x0] aF:=e_d8 0 _ _ rfl rfl
noncomputable abbrev Sb:Kx:=fx cfg 0 [.t 4,.t 5]
theorem e_bg:Oe cfg Gy 2 [.t 4,.t 5] aU:=fun _ _ _=>ab (fn:=kG) rfl rfl _ _ _
theorem o_bg (x0 x1:D):Of Sb Gy [.d x0,.d x1] aU:=e_bg 0 _ _ rfl rfl
noncomputable abbrev Im:Kx:=fx cfg 0 [.t 4,.t 5,.t 6]
theorem e_ay:Oe cfg HY 2 [.t 4,.t 5,.t 6] aY:=fun _ _ _=>ab (fn:=kP) rfl rfl _ _ _
theorem o_ay (x0 x1:D):Of Im HY [.d x0,.d x1] aY:=e_ay 0 _ _ rfl rfl
noncomputable abbrev D1:Kx:=fx cfg 0 [.cell 4 (some 5),.t 5,.t 6]
theorem e_ae:Oe cfg T5 2 [.cell 4 (some 5),.t 5,.t 6] ER:=fun _ _ _=>ab (fn:=lF) rfl rfl _ _ _
theorem o_ae (x0 x1:D):Of D1 T5 [.d x0,.d x1] ER:=e_ae 0 _ _ rfl rfl
noncomputable abbrev Gm:Kx:=fx cfg 0 [.t 2,.t 3]
theorem e_av:Oe cfg Rz 1 [.t 2,.t 3] XS:=fun _ _ _=>ab (fn:=kS) rfl rfl _ _ _
theorem o_av (x0:D):Of Gm Rz [.d x0] XS:=e_av 0 _ _ rfl rfl
noncomputable abbrev Aw:Kx:=fx cfg 0 [.cell 4 (some 15),.t 5]
theorem e_aa:Oe cfg Dq 2 [.cell 4 (some 15),.t 5] bB:=fun _ _ _=>ab (fn:=lI) rfl rfl _ _ _
theorem FR (x0 x1:D):Of Aw Dq [.d x0,.d x1] bB:=e_aa 0 _ _ rfl rfl
noncomputable abbrev CW:Kx:=fx cfg 0 [.t 2]
theorem e_af:Oe cfg T4 1 [.t 2] Dx:=fun _ _ _=>ab (fn:=lE) rfl rfl _ _ _
theorem o_af (x0:D):Of CW T4 [.d x0] Dx:=e_af 0 _ _ rfl rfl
noncomputable abbrev Hm:Kx:=fx cfg 0 [.t 6,.t 7]
theorem e_aq:Oe cfg Ha 3 [.t 6,.t 7] SR:=fun _ _ _=>ab (fn:=kU) rfl rfl _ _ _
theorem o_aq (x0 x1 x2:D):Of Hm Ha [.d x0,.d x1,.d x2] SR:=e_aq 0 _ _ rfl rfl
noncomputable abbrev X_dj:Kx:=fx cfg 0 [.t 2]
theorem e_dj:Oe cfg Ta 1 [.t 2] aA:=fun _ _ _=>ab (fn:=iY) rfl rfl _ _ _
theorem o_dj (x0:D):Of X_dj Ta [.d x0] aA:=e_dj 0 _ _ rfl rfl
noncomputable abbrev Ey:Kx:=fx cfg 0 [.t 4]
theorem e_au:Oe cfg HZ 2 [.t 4] Ia:=fun _ _ _=>ab (fn:=kT) rfl rfl _ _ _
theorem o_au (x0 x1:D):Of Ey HZ [.d x0,.d x1] Ia:=e_au 0 _ _ rfl rfl
noncomputable abbrev X_dw:Kx:=fx cfg 0 [.t 2]
theorem e_dw:Oe cfg TW 1 [.t 2] Z3:=fun _ _ _=>ab (fn:=iP) rfl rfl _ _ _
theorem o_dw (x0:D):Of X_dw TW [.d x0] Z3:=e_dw 0 _ _ rfl rfl
noncomputable abbrev UP:Kx:=fx cfg 0 [.cell 6 (some 6),.t 7]
theorem e_cd:Oe cfg Tk 3 [.cell 6 (some 6),.t 7] IZ:=fun _ _ _=>ab (fn:=jS) rfl rfl _ _ _
theorem o_cd (x0 x1 x2:D):Of UP Tk [.d x0,.d x1,.d x2] IZ:=e_cd 0 _ _ rfl rfl
noncomputable abbrev X_br:Kx:=fx cfg 0 [.t 4]
theorem e_br:Oe cfg Tp 2 [.t 4] aR:=fun _ _ _=>ab (fn:=jZ) rfl rfl _ _ _
theorem o_br (x0 x1:D):Of X_br Tp [.d x0,.d x1] aR:=e_br 0 _ _ rfl rfl
noncomputable abbrev SY:Kx:=fx cfg 0 [.t 2]
theorem e_cc:Oe cfg Tl 1 [.t 2] aN:=fun _ _ _=>ab (fn:=jT) rfl rfl _ _ _
theorem o_cc (x0:D):Of SY Tl [.d x0] aN:=e_cc 0 _ _ rfl rfl
noncomputable abbrev X_cm:Kx:=fx cfg 0 [.t 4]
theorem e_cm:Oe cfg Ti 2 [.t 4] aL:=fun _ _ _=>ab (fn:=jO) rfl rfl _ _ _
theorem o_cm (x0 x1:D):Of X_cm Ti [.d x0,.d x1] aL:=e_cm 0 _ _ rfl rfl
noncomputable abbrev X_fe:Kx:=fx cfg 0 [.t 4]
theorem e_fe:Oe cfg TO 2 [.t 4] Zp:=fun _ _ _=>ab (fn:=gY) rfl rfl _ _ _
theorem o_fe (x0 x1:D):Of X_fe TO [.d x0,.d x1] Zp:=e_fe 0 _ _ rfl rfl
noncomputable abbrev SZ:Kx:=fx cfg 0 [.t 2]
theorem e_bp:Oe cfg Tq 1 [.t 2] UI:=fun _ _ _=>ab (fn:=kB) rfl rfl _ _ _
theorem o_bp (x0:D):Of SZ Tq [.d x0] UI:=e_bp 0 _ _ rfl rfl
noncomputable abbrev bO:Kx:=fx cfg 0 [.t 4]
theorem e_ey:Oe cfg Gv 2 [.t 4] UE:=fun _ _ _=>ab (fn:=iC) rfl rfl _ _ _
theorem fU (x0 x1:D):Of bO Gv [.d x0,.d x1] UE:=e_ey 0 _ _ rfl rfl
noncomputable abbrev X_az:Kx:=fx cfg 0 [.t 4]
theorem e_az:Oe cfg Tw 2 [.t 4] aX:=fun _ _ _=>ab (fn:=kO) rfl rfl _ _ _
theorem o_az (x0 x1:D):Of X_az Tw [.d x0,.d x1] aX:=e_az 0 _ _ rfl rfl
noncomputable abbrev X_de:Kx:=fx cfg 0 [.t 2]
theorem e_de:Oe cfg Td 1 [.t 2] aD:=fun _ _ _=>ab (fn:=jC) rfl rfl _ _ _
theorem o_de (x0:D):Of X_de Td [.d x0] aD:=e_de 0 _ _ rfl rfl
noncomputable abbrev X_df:Kx:=fx cfg 0 [.t 2]
theorem e_df:Oe cfg Tc 1 [.t 2] aC:=fun _ _ _=>ab (fn:=jB) rfl rfl _ _ _
theorem o_df (x0:D):Of X_df Tc [.d x0] aC:=e_df 0 _ _ rfl rfl
noncomputable abbrev X_eh:Kx:=fx cfg 0 [.t 4]
theorem e_eh:Oe cfg TT 2 [.t 4] Zx:=fun _ _ _=>ab (fn:=iI) rfl rfl _ _ _
theorem o_eh (x0 x1:D):Of X_eh TT [.d x0,.d x1] Zx:=e_eh 0 _ _ rfl rfl
noncomputable abbrev Hl:Kx:=fx cfg 0 [.t 4]
theorem e_aw:Oe cfg Gz 2 [.t 4] aZ:=fun _ _ _=>ab (fn:=kR) rfl rfl _ _ _
theorem o_aw (x0 x1:D):Of Hl Gz [.d x0,.d x1] aZ:=e_aw 0 _ _ rfl rfl
noncomputable abbrev X_fq:Kx:=fx cfg 0 [.cell 2 (some 6)]
theorem e_fq:Oe cfg Re 1 [.cell 2 (some 6)] Zk:=fun _ _ _=>ab (fn:=gN) rfl rfl _ _ _
theorem o_fq (x0:D):Of X_fq Re [.d x0] Zk:=e_fq 0 _ _ rfl rfl
noncomputable abbrev oM:Kx:=fx cfg 0 [.t 6]
theorem e_ck:Oe cfg HU 3 [.t 6] XN:=fun _ _ _=>ab (fn:=jQ) rfl rfl _ _ _
noncomputable abbrev Xi:Kx:=fx cfg 0 [.t 4,.t 5]
theorem e_er:Oe cfg TR 2 [.t 4,.t 5] SN:=fun _ _ _=>ab (fn:=iE) rfl rfl _ _ _
theorem o_er (x0 x1:D):Of Xi TR [.d x0,.d x1] SN:=e_er 0 _ _ rfl rfl
noncomputable abbrev X_fb:Kx:=fx cfg 0 [.t 2]
theorem e_fb:Oe cfg Rh 1 [.t 2] Zq:=fun _ _ _=>ab (fn:=hP) rfl rfl _ _ _
theorem o_fb (x0:D):Of X_fb Rh [.d x0] Zq:=e_fb 0 _ _ rfl rfl
noncomputable abbrev SX:Kx:=fx cfg 0 [.t 4,.t 5]
theorem e_cx:Oe cfg Tf 2 [.t 4,.t 5] Hg:=fun _ _ _=>ab (fn:=jJ) rfl rfl _ _ _
theorem o_cx (x0 x1:D):Of SX Tf [.d x0,.d x1] Hg:=e_cx 0 _ _ rfl rfl
noncomputable abbrev oH:Kx:=fx cfg 0 [.t 2]
theorem e_fg:Oe cfg Rg 1 [.t 2] XI:=fun _ _ _=>ab (fn:=gW) rfl rfl _ _ _
theorem o_fg (x0:D):Of oH Rg [.d x0] XI:=e_fg 0 _ _ rfl rfl
noncomputable abbrev oL:Kx:=fx cfg 0 [.t 4,.t 5,.t 6]
theorem e_cl:Oe cfg Tj 2 [.t 4,.t 5,.t 6] XM:=fun _ _ _=>ab (fn:=jP) rfl rfl _ _ _
theorem o_cl (x0 x1:D):Of oL Tj [.d x0,.d x1] XM:=e_cl 0 _ _ rfl rfl
noncomputable abbrev X_ff:Kx:=fx cfg 0 [.t 4,.t 5,.t 6]
theorem e_ff:Oe cfg TM 2 [.t 4,.t 5,.t 6] Zo:=fun _ _ _=>ab (fn:=gX) rfl rfl _ _ _
theorem o_ff (x0 x1:D):Of X_ff TM [.d x0,.d x1] Zo:=e_ff 0 _ _ rfl rfl
noncomputable abbrev oK:Kx:=fx cfg 0 [.t 4]
theorem e_cr:Oe cfg Th 2 [.t 4] XL:=fun _ _ _=>ab (fn:=jL) rfl rfl _ _ _
theorem o_cr (x0 x1:D):Of oK Th [.d x0,.d x1] XL:=e_cr 0 _ _ rfl rfl
noncomputable abbrev oO:Kx:=fx cfg 0 [.t 4,.t 5]
theorem e_b6:Oe cfg Tu 2 [.t 4,.t 5] XQ:=fun _ _ _=>ab (fn:=kM) rfl rfl _ _ _
theorem o_b6 (x0 x1:D):Of oO Tu [.d x0,.d x1] XQ:=e_b6 0 _ _ rfl rfl
noncomputable abbrev X_dq:Kx:=fx cfg 0 [.t 4,.t 5]
theorem e_dq:Oe cfg TX 2 [.t 4,.t 5] Z7:=fun _ _ _=>ab (fn:=iU) rfl rfl _ _ _
theorem o_dq (x0 x1:D):Of X_dq TX [.d x0,.d x1] Z7:=e_dq 0 _ _ rfl rfl
noncomputable abbrev Ei:Kx:=fx cfg 0 [.t 4,.t 5]
theorem e_ax:Oe cfg Tz 2 [.t 4,.t 5] G4:=fun _ _ _=>ab (fn:=kQ) rfl rfl _ _ _
theorem o_ax (x0 x1:D):Of Ei Tz [.d x0,.d x1] G4:=e_ax 0 _ _ rfl rfl
noncomputable abbrev oN:Kx:=fx cfg 0 [.t 4,.t 5]
theorem e_bo:Oe cfg HW 2 [.t 4,.t 5] XO:=fun _ _ _=>ab (fn:=kC) rfl rfl _ _ _
noncomputable abbrev X_ct:Kx:=fx cfg 0 [.t 4,.t 5,.t 6]
theorem e_ct:Oe cfg Tg 2 [.t 4,.t 5,.t 6] aJ:=fun _ _ _=>ab (fn:=jK) rfl rfl _ _ _
noncomputable abbrev X_dz:Kx:=fx cfg 0 [.t 4,.t 5]
theorem e_dz:Oe cfg Rm 2 [.t 4,.t 5] nW:=fun _ _ _=>ab (fn:=iM) rfl rfl _ _ _
noncomputable abbrev X_cq:Kx:=fx cfg 0 [.t 4,.t 5,.t 6]
theorem e_cq:Oe cfg HS 2 [.t 4,.t 5,.t 6] aK:=fun _ _ _=>ab (fn:=jM) rfl rfl _ _ _
noncomputable abbrev X_ft:Kx:=fx cfg 0 [.t 2]
theorem e_ft:Oe cfg TJ 1 [.t 2] Zj:=fun _ _ _=>ab (fn:=gM) rfl rfl _ _ _
theorem o_ft (x0:D):Of X_ft TJ [.d x0] Zj:=e_ft 0 _ _ rfl rfl
noncomputable abbrev X_fv:Kx:=fx cfg 0 [.t 4,.t 5]
theorem e_fv:Oe cfg TG 2 [.t 4,.t 5] Zh:=fun _ _ _=>ab (fn:=gJ) rfl rfl _ _ _
theorem o_fv (x0 x1:D):Of X_fv TG [.d x0,.d x1] Zh:=e_fv 0 _ _ rfl rfl
noncomputable abbrev X_dr:Kx:=fx cfg 0 [.t 4,.t 5]
theorem e_dr:Oe cfg Fx 2 [.t 4,.t 5] nX:=fun _ _ _=>ab (fn:=iT) rfl rfl _ _ _
noncomputable abbrev G8:Kx:=fx cfg 0 [.t 4]
theorem SK:Oe cfg FW 2 [.t 4] F9:=fun _ _ _=>ab (fn:=lB) rfl rfl _ _ _
noncomputable abbrev Ez:Kx:=fx cfg 0 [.cell 4 (some 15),.t 5]
theorem e_aj:Oe cfg E6 2 [.cell 4 (some 15),.t 5] EP:=fun _ _ _=>ab (fn:=lA) rfl rfl _ _ _
theorem TD (x0 x1:D):Of Ez E6 [.d x0,.d x1] EP:=e_aj 0 _ _ rfl rfl
noncomputable abbrev oG:Kx:=fx cfg 0 [.t 4,.t 5]
theorem e_fo:Oe cfg Hz 2 [.t 4,.t 5] XH:=fun _ _ _=>ab (fn:=gP) rfl rfl _ _ _
theorem o_fo (x0 x1:D):Of oG Hz [.d x0,.d x1] XH:=e_fo 0 _ _ rfl rfl
noncomputable abbrev Eh:Kx:=fx cfg 0 [.t 4,.t 5]
theorem e_bm:Oe cfg Ts 2 [.t 4,.t 5] aT:=fun _ _ _=>ab (fn:=kE) rfl rfl _ _ _
theorem o_bm (x0 x1:D):Of Eh Ts [.d x0,.d x1] aT:=e_bm 0 _ _ rfl rfl
noncomputable abbrev SW:Kx:=fx cfg 0 [.cell 6 (some 5),.cell 7 none]
theorem e_ed:Oe cfg H4 3 [.cell 6 (some 5),.cell 7 none] Zz:=fun _ _ _=>ab (fn:=iK) rfl rfl _ _ _
theorem o_ed (x0 x1 x2:D):Of SW H4 [.d x0,.d x1,.d x2] Zz:=e_ed 0 _ _ rfl rfl
noncomputable abbrev X_fp:Kx:=fx cfg 0 [.t 4,.t 5]
theorem e_fp:Oe cfg Hy 2 [.t 4,.t 5] Zl:=fun _ _ _=>ab (fn:=gO) rfl rfl _ _ _
theorem o_fp (x0 x1:D):Of X_fp Hy [.d x0,.d x1] Zl:=e_fp 0 _ _ rfl rfl
noncomputable abbrev Ij:Kx:=fx cfg 0 [.t 4,.t 5,.t 6]
theorem e_ce:Oe cfg H5 2 [.t 4,.t 5,.t 6] aM:=fun _ _ _=>ab (fn:=jR) rfl rfl _ _ _
theorem o_ce (x0 x1:D):Of Ij H5 [.d x0,.d x1] aM:=e_ce 0 _ _ rfl rfl
noncomputable abbrev EC:Kx:=fx cfg 0 [.cell 4 (some 5),.t 5,.t 6]
theorem e_ap:Oe cfg T0 2 [.cell 4 (some 5),.t 5,.t 6] EO:=fun _ _ _=>ab (fn:=kV) rfl rfl _ _ _
theorem o_ap (x0 x1:D):Of EC T0 [.d x0,.d x1] EO:=e_ap 0 _ _ rfl rfl
noncomputable abbrev Gl:Kx:=fx cfg 0 [.t 2,.t 3]
theorem e_b9:Oe cfg Ry 1 [.t 2,.t 3] XP:=fun _ _ _=>ab (fn:=kK) rfl rfl _ _ _
theorem o_b9 (x0:D):Of Gl Ry [.d x0] XP:=e_b9 0 _ _ rfl rfl
noncomputable abbrev X_fi:Kx:=fx cfg 0 []
theorem e_fi:Oe cfg TL 3 [] nT:=fun _ _ _=>ab (fn:=gT) rfl rfl _ _ _
noncomputable abbrev X_ez:Kx:=fx cfg 0 []
theorem e_ez:Oe cfg Rk 3 [] Zs:=fun _ _ _=>ab (fn:=iB) rfl rfl _ _ _
noncomputable abbrev X_em:Kx:=fx cfg 0 []
theorem e_em:Oe cfg TS 2 [] Zv:=fun _ _ _=>ab (fn:=iG) rfl rfl _ _ _
noncomputable abbrev X_fa:Kx:=fx cfg 0 [.t 2]
theorem e_fa:Oe cfg Rj 1 [.t 2] Zr:=fun _ _ _=>ab (fn:=iA) rfl rfl _ _ _
theorem o_fa (x0:D):Of X_fa Rj [.d x0] Zr:=e_fa 0 _ _ rfl rfl
noncomputable abbrev G7:Kx:=fx cfg 0 [.t 4]
theorem e_b7:Oe cfg Tt 2 [.t 4] F8:=fun _ _ _=>ab (fn:=kL) rfl rfl _ _ _
theorem o_b7 (x0 x1:D):Of G7 Tt [.d x0,.d x1] F8:=e_b7 0 _ _ rfl rfl
noncomputable abbrev X_fc:Kx:=fx cfg 0 []
theorem e_fc:Oe cfg H3 4 [] nV:=fun _ _ _=>ab (fn:=gZ) rfl rfl _ _ _
noncomputable abbrev X_fh:Kx:=fx cfg 0 []
theorem e_fh:Oe cfg H2 3 [] nU:=fun _ _ _=>ab (fn:=gV) rfl rfl _ _ _
noncomputable abbrev X_fu:Kx:=fx cfg 0 [.t 2]
theorem e_fu:Oe cfg TH 1 [.t 2] Zi:=fun _ _ _=>ab (fn:=gK) rfl rfl _ _ _
theorem o_fu (x0:D):Of X_fu TH [.d x0] Zi:=e_fu 0 _ _ rfl rfl
noncomputable abbrev X_fk:Kx:=fx cfg 0 [.t 6]
theorem e_fk:Oe cfg TK 3 [.t 6] Zn:=fun _ _ _=>ab (fn:=gR) rfl rfl _ _ _
theorem o_fk (x0 x1 x2:D):Of X_fk TK [.d x0,.d x1,.d x2] Zn:=e_fk 0 _ _ rfl rfl
noncomputable abbrev X_fj:Kx:=fx cfg 0 []
theorem e_fj:Oe cfg H0 3 [] nS:=fun _ _ _=>ab (fn:=gS) rfl rfl _ _ _
noncomputable abbrev Gp:Kx:=fx cfg 0 [.t 4]
theorem e_ah:Oe cfg T3 2 [.t 4] Fc:=fun _ _ _=>ab (fn:=lC) rfl rfl _ _ _
theorem o_ah (x0 x1:D):Of Gp T3 [.d x0,.d x1] Fc:=e_ah 0 _ _ rfl rfl
noncomputable abbrev X_bc:Kx:=fx cfg 0 [.t 2]
theorem e_bc:Oe cfg HX 1 [.t 2] aV:=fun _ _ _=>ab (fn:=kH) rfl rfl _ _ _
theorem o_bc (x0:D):Of X_bc HX [.d x0] aV:=e_bc 0 _ _ rfl rfl
noncomputable abbrev Fh:Kx:=fx cfg 0 [.t 4]
theorem e_bq:Oe cfg Rx 2 [.t 4] Et:=fun _ _ _=>ab (fn:=kA) rfl rfl _ _ _
theorem o_bq (x0 x1:D):Of Fh Rx [.d x0,.d x1] Et:=e_bq 0 _ _ rfl rfl
noncomputable abbrev X_dy:Kx:=fx cfg 0 [.t 6]
theorem e_dy:Oe cfg Rn 3 [.t 6] Z1:=fun _ _ _=>ab (fn:=iN) rfl rfl _ _ _
theorem o_dy (x0 x1 x2:D):Of X_dy Rn [.d x0,.d x1,.d x2] Z1:=e_dy 0 _ _ rfl rfl
noncomputable abbrev Ii:Kx:=fx cfg 0 [.t 4]
theorem e_co:Oe cfg HT 2 [.t 4] UG:=fun _ _ _=>ab (fn:=jN) rfl rfl _ _ _
theorem o_co (x0 x1:D):Of Ii HT [.d x0,.d x1] UG:=e_co 0 _ _ rfl rfl
noncomputable abbrev X_bz:Kx:=fx cfg 0 [.t 2]
theorem e_bz:Oe cfg HV 1 [.t 2] aO:=fun _ _ _=>ab (fn:=jU) rfl rfl _ _ _
theorem o_bz (x0:D):Of X_bz HV [.d x0] aO:=e_bz 0 _ _ rfl rfl
noncomputable abbrev X_fm:Kx:=fx cfg 0 [.t 6,.t 7]
theorem e_fm:Oe cfg Rf 3 [.t 6,.t 7] Zm:=fun _ _ _=>ab (fn:=gQ) rfl rfl _ _ _
theorem o_fm (x0 x1 x2:D):Of X_fm Rf [.d x0,.d x1,.d x2] Zm:=e_fm 0 _ _ rfl rfl
noncomputable abbrev X_ec:Kx:=fx cfg 0 [.t 6]
theorem e_ec:Oe cfg Gw 3 [.t 6] Z0:=fun _ _ _=>ab (fn:=iL) rfl rfl _ _ _
theorem o_ec (x0 x1 x2:D):Of X_ec Gw [.d x0,.d x1,.d x2] Z0:=e_ec 0 _ _ rfl rfl
noncomputable abbrev X_bt:Kx:=fx cfg 0 [.t 2]
theorem e_bt:Oe cfg To 1 [.t 2] aQ:=fun _ _ _=>ab (fn:=jY) rfl rfl _ _ _
theorem o_bt (x0:D):Of X_bt To [.d x0] aQ:=e_bt 0 _ _ rfl rfl
noncomputable abbrev Fj:Kx:=fx cfg 0 [.t 8]
theorem ZU:Oe cfg R6 4 [.t 8] UM:=fun _ _ _=>ab (fn:=lL) rfl rfl _ _ _
noncomputable abbrev EU:Kx:=fx cfg 0 [.t 2]
theorem e_ao:Oe cfg T1 1 [.t 2] Dw:=fun _ _ _=>ab (fn:=kW) rfl rfl _ _ _
theorem o_ao (x0:D):Of EU T1 [.d x0] Dw:=e_ao 0 _ _ rfl rfl
noncomputable abbrev Ik:Kx:=fx cfg 0 [.t 6]
theorem e_bh:Oe cfg H6 3 [.t 6] G3:=fun _ _ _=>ab (fn:=kF) rfl rfl _ _ _
noncomputable abbrev X_ew:Kx:=fx cfg 0 [.t 2]
theorem e_ew:Oe cfg TP 1 [.t 2] Zt:=fun _ _ _=>ab (fn:=iD) rfl rfl _ _ _
theorem o_ew (x0:D):Of X_ew TP [.d x0] Zt:=e_ew 0 _ _ rfl rfl
noncomputable abbrev X_dm:Kx:=fx cfg 0 [.t 2]
theorem e_dm:Oe cfg HR 1 [.t 2] Z9:=fun _ _ _=>ab (fn:=iW) rfl rfl _ _ _
theorem o_dm (x0:D):Of X_dm HR [.d x0] Z9:=e_dm 0 _ _ rfl rfl
noncomputable abbrev UQ:Kx:=fx cfg 0 [.t 6]
theorem e_al:Oe cfg Yn 3 [.t 6] Ib:=fun _ _ _=>ab (fn:=kY) rfl rfl _ _ _
theorem o_al (x0 x1 x2:D):Of UQ Yn [.d x0,.d x1,.d x2] Ib:=e_al 0 _ _ rfl rfl
@[go_sem] theorem u_bo:Uc cfg HW:=uc rfl
@[go_sem] theorem u_ai:Uc cfg FW:=uc rfl
@[go_sem] theorem u_dr:Uc cfg Fx:=uc rfl
@[go_sem] theorem u_ck:Uc cfg HU:=uc rfl
@[go_sem] theorem u_gm:Uc cfg V1:=uc rfl
@[go_sem] theorem u_bp:Uc cfg Tq:=uc rfl
@[go_sem] theorem u_ax:Uc cfg Tz:=uc rfl
@[go_sem] theorem u_b7:Uc cfg Tt:=uc rfl
@[go_sem] theorem u_fg:Uc cfg Rg:=uc rfl
@[go_sem] theorem u_fa:Uc cfg Rj:=uc rfl
@[go_sem] theorem u_bq:Uc cfg Rx:=uc rfl
@[go_sem] theorem u_aj:Uc cfg E6:=uc rfl
@[go_sem] theorem u_ah:Uc cfg T3:=uc rfl
@[go_sem] theorem u_ct:Uc cfg Tg:=uc rfl
@[go_sem] theorem u_cq:Uc cfg HS:=uc rfl
@[go_sem] theorem u_bc:Uc cfg HX:=uc rfl
@[go_sem] theorem u_fq:Uc cfg Re:=uc rfl
@[go_sem] theorem u_dw:Uc cfg TW:=uc rfl
@[go_sem] theorem u_au:Uc cfg HZ:=uc rfl
@[go_sem] theorem u_ej:Uc cfg HQ:=uc rfl
@[go_sem] theorem u_ef:Uc cfg TU:=uc rfl
@[go_sem] theorem u_cu:Uc cfg Ym:=uc rfl
@[go_sem] theorem u_a8:Uc cfg T7:=uc rfl
@[go_sem] theorem u_dn:Uc cfg TY:=uc rfl
@[go_sem] theorem u_ac:Uc cfg H8:=uc rfl
@[go_sem] theorem u_ba:Uc cfg H7:=uc rfl
@[go_sem] theorem u_bu:Uc cfg Rw:=uc rfl
@[go_sem] theorem u_cy:Uc cfg Rv:=uc rfl
@[go_sem] theorem u_dx:Uc cfg TV:=uc rfl
@[go_sem] theorem u_dj:Uc cfg Ta:=uc rfl
@[go_sem] theorem u_d6:Uc cfg Ru:=uc rfl
@[go_sem] theorem u_aq:Uc cfg Ha:=uc rfl
@[go_sem] theorem u_af:Uc cfg T4:=uc rfl
@[go_sem] theorem u_ag:Uc cfg Fy:=uc rfl
@[go_sem] theorem u_bx:Uc cfg Tm:=uc rfl
@[go_sem] theorem u_ak:Uc cfg R5:=uc rfl
@[go_sem] theorem u_a7:Uc cfg FX:=uc rfl
@[go_sem] theorem u_bn:Uc cfg Tr:=uc rfl
@[go_sem] theorem u_du:Uc cfg Rp:=uc rfl
@[go_sem] theorem u_d7:Uc cfg Rt:=uc rfl
@[go_sem] theorem u_dh:Uc cfg Tb:=uc rfl
@[go_sem] theorem u_bw:Uc cfg Tn:=uc rfl
@[go_sem] theorem u_ay:Uc cfg HY:=uc rfl
@[go_sem] theorem u_db:Uc cfg Te:=uc rfl
@[go_sem] theorem u_dl:Uc cfg TZ:=uc rfl
@[go_sem] theorem u_di:Uc cfg Rq:=uc rfl
@[go_sem] theorem u_ab:Uc cfg T6:=uc rfl
@[go_sem] theorem u_aa:Uc cfg Dq:=uc rfl
@[go_sem] theorem u_b5:Uc cfg Tv:=uc rfl
@[go_sem] theorem u_d8:Uc cfg Rs:=uc rfl
@[go_sem] theorem u_da:Uc cfg Rr:=uc rfl
@[go_sem] theorem u_dv:Uc cfg Ro:=uc rfl
@[go_sem] theorem u_dt:Uc cfg Gx:=uc rfl
@[go_sem] theorem u_av:Uc cfg Rz:=uc rfl
@[go_sem] theorem u_bb:Uc cfg GX:=uc rfl
@[go_sem] theorem u_bg:Uc cfg Gy:=uc rfl
@[go_sem] theorem u_am:Uc cfg T2:=uc rfl
@[go_sem] theorem u_ae:Uc cfg T5:=uc rfl
@[go_sem] theorem u_en:Uc cfg Rl:=uc rfl
@[go_sem] theorem u_er:Uc cfg TR:=uc rfl
@[go_sem] theorem u_cx:Uc cfg Tf:=uc rfl
@[go_sem] theorem u_co:Uc cfg HT:=uc rfl
@[go_sem] theorem u_ce:Uc cfg H5:=uc rfl
@[go_sem] theorem u_ft:Uc cfg TJ:=uc rfl
@[go_sem] theorem u_fu:Uc cfg TH:=uc rfl
@[go_sem] theorem u_fb:Uc cfg Rh:=uc rfl
@[go_sem] theorem u_fv:Uc cfg TG:=uc rfl
@[go_sem] theorem u_b9:Uc cfg Ry:=uc rfl
@[go_sem] theorem u_dy:Uc cfg Rn:=uc rfl
@[go_sem] theorem u_fk:Uc cfg TK:=uc rfl
@[go_sem] theorem u_ec:Uc cfg Gw:=uc rfl
@[go_sem] theorem u_fo:Uc cfg Hz:=uc rfl
@[go_sem] theorem u_fp:Uc cfg Hy:=uc rfl
@[go_sem] theorem u_bm:Uc cfg Ts:=uc rfl
@[go_sem] theorem u_ap:Uc cfg T0:=uc rfl
@[go_sem] theorem u_fm:Uc cfg Rf:=uc rfl
@[go_sem] theorem u_ed:Uc cfg H4:=uc rfl
@[go_sem] theorem u_eu:Uc cfg TQ:=uc rfl
@[go_sem] theorem u_fy:Uk cfg V4:=uk rfl
@[go_sem] theorem u_gk:Uk cfg n_gk:=uk rfl
@[go_sem] theorem u_f7:Uk cfg n_f7:=uk rfl
@[go_sem] theorem u_gd:Uk cfg n_gd:=uk rfl
@[go_sem] theorem u_fz:Uk cfg n_fz:=uk rfl
@[go_sem] theorem u_gg:Uk cfg n_gg:=uk rfl
@[go_sem] theorem u_bz:Uc cfg HV:=uc rfl
@[go_sem] theorem u_bt:Uc cfg To:=uc rfl
@[go_sem] theorem u_fe:Uc cfg TO:=uc rfl
@[go_sem] theorem u_f6:Uc cfg V5:=uc rfl
@[go_sem] theorem u_ff:Uc cfg TM:=uc rfl
@[go_sem] theorem u_dq:Uc cfg TX:=uc rfl
@[go_sem] theorem u_gc:Uc cfg TF:=uc rfl
@[go_sem] theorem u_gj:Uc cfg V2:=uc rfl
@[go_sem] theorem u_cl:Uc cfg Tj:=uc rfl
@[go_sem] theorem u_b6:Uc cfg Tu:=uc rfl
@[go_sem] theorem u_cr:Uc cfg Th:=uc rfl
@[go_sem] theorem u_ga:Uc cfg V3:=uc rfl
@[go_sem] theorem u_ew:Uc cfg TP:=uc rfl
@[go_sem] theorem u_dm:Uc cfg HR:=uc rfl
@[go_sem] theorem u_de:Uc cfg Td:=uc rfl
@[go_sem] theorem u_gh:Uc cfg TE:=uc rfl
@[go_sem] theorem u_ao:Uc cfg T1:=uc rfl
@[go_sem] theorem u_bh:Uc cfg H6:=uc rfl
@[go_sem] theorem u_aw:Uc cfg Gz:=uc rfl
@[go_sem] theorem u_cc:Uc cfg Tl:=uc rfl
@[go_sem] theorem u_br:Uc cfg Tp:=uc rfl
@[go_sem] theorem u_cd:Uc cfg Tk:=uc rfl
@[go_sem] theorem u_cm:Uc cfg Ti:=uc rfl
@[go_sem] theorem u_eh:Uc cfg TT:=uc rfl
@[go_sem] theorem u_az:Uc cfg Tw:=uc rfl
@[go_sem] theorem u_df:Uc cfg Tc:=uc rfl
@[go_sem] theorem u_ey:Uc cfg Gv:=uc rfl
@[go_sem] theorem cg_ck:cfg.chg HU=some ([(0,9)]):=rfl
@[go_sem] theorem cg_fh:cfg.chg H2=some ([(2,0)]):=rfl
def buf:=byz OV.eq_1 OU.eq_1 OT.eq_1 OS.eq_1 KR.eq_1 KQ.eq_1 O7.eq_1 O6.eq_1
def bug:=byz O5.eq_1 O4.eq_1 O3.eq_1 O2.eq_1 O1.eq_1 O0.eq_1 Oz.eq_1 Oy.eq_1
def buh:=byz aqw.eq_1 aqv.eq_1 aqu.eq_1 aqt.eq_1 aqs.eq_1 aqr.eq_1 aqq.eq_1 aqp.eq_1
def bui:=byz aqo.eq_1 aqn.eq_1 aqm.eq_1 aql.eq_1 NU.eq_1 NT.eq_1 NS.eq_1 NR.eq_1
def buj:=byz NQ.eq_1 NP.eq_1 Lh.eq_1 Lg.eq_1 Lf.eq_1 Ld.eq_1 Lc.eq_1 J7.eq_1
def buk:=byz J6.eq_1 Lo.eq_1 Ln.eq_1 Lm.eq_1 Ll.eq_1 Lk.eq_1 I6.eq_1 I5.eq_1
def bul:=byz I2.eq_1 Iz.eq_1 Iy.eq_1 KP.eq_1 KO.eq_1 Qb.eq_1 Qa.eq_1 QZ.eq_1
def bum:=byz QY.eq_1 QX.eq_1 QW.eq_1 QV.eq_1 QU.eq_1 QT.eq_1 QS.eq_1 bnw.eq_1
def bun:=byz bnv.eq_1 bnu.eq_1 bnt.eq_1 bns.eq_1 bnr.eq_1 bnq.eq_1 bnp.eq_1 bno.eq_1
def buo:=byz bnn.eq_1 bnm.eq_1 bnl.eq_1 bnk.eq_1 bnj.eq_1 bnh.eq_1 QR.eq_1 QQ.eq_1
def bup:=byz QP.eq_1 QO.eq_1 QN.eq_1 QM.eq_1 QL.eq_1 QK.eq_1 QJ.eq_1 QI.eq_1
def buq:=byz bng.eq_1 bnf.eq_1 bnd.eq_1 bnc.eq_1 bnb.eq_1 bna.eq_1 bm9.eq_1 bm8.eq_1
def bur:=byz bm7.eq_1 bm6.eq_1 bm4.eq_1 bm3.eq_1 bm2.eq_1 bm1.eq_1 JE.eq_1 JD.eq_1
def bus:=byz JC.eq_1 Nb.eq_1 Na.eq_1 NZ.eq_1 bji.eq_1 bjh.eq_1 bjg.eq_1 bjf.eq_1
def buu:=byz bje.eq_1 bjd.eq_1 bjc.eq_1 ap3.eq_1 ap2.eq_1 ap1.eq_1 ap0.eq_1 apz.eq_1
def buv:=byz apy.eq_1 yj.eq_1 yi.eq_1 J1.eq_1 J0.eq_1 bh7.eq_1 bh6.eq_1 bh5.eq_1
def buw:=byz bh4.eq_1 JB.eq_1 JA.eq_1 I9.eq_1 MG.eq_1 MF.eq_1 ME.eq_1 bij.eq_1
def bux:=byz bii.eq_1 bih.eq_1 bie.eq_1 bid.eq_1 bic.eq_1 apu.eq_1 apt.eq_1 aps.eq_1
def buy:=byz Pm.eq_1 Pk.eq_1 Pj.eq_1 Ph.eq_1 Pg.eq_1 Pf.eq_1 Pe.eq_1 Pd.eq_1
def buz:=byz Pc.eq_1 Pb.eq_1 blv.eq_1 blu.eq_1 blt.eq_1 bls.eq_1 blr.eq_1 blq.eq_1
def bu0:=byz blp.eq_1 blo.eq_1 bln.eq_1 blm.eq_1 bll.eq_1 blj.eq_1 bli.eq_1 blh.eq_1
def bu1:=byz blg.eq_1 blf.eq_1 ble.eq_1 bld.eq_1 blc.eq_1 blb.eq_1 bla.eq_1 ars.eq_1
def bu2:=byz arr.eq_1 arp.eq_1 aro.eq_1 OG.eq_1 OE.eq_1 OD.eq_1 OC.eq_1 OB.eq_1
def bu3:=byz bkc.eq_1 bkb.eq_1 bka.eq_1 bj9.eq_1 bj8.eq_1 aqf.eq_1 aqe.eq_1 aqd.eq_1
def bu4:=byz aqc.eq_1 Jb.eq_1 Ja.eq_1 Jq.eq_1 Jp.eq_1 Jo.eq_1 JZ.eq_1 JY.eq_1
def bu5:=byz JX.eq_1 JW.eq_1 OR.eq_1 OQ.eq_1 OP.eq_1 OO.eq_1 ON.eq_1 OM.eq_1
def bu6:=byz OL.eq_1 OJ.eq_1 OI.eq_1 OH.eq_1 bkf.eq_1 bke.eq_1 bkd.eq_1 JL.eq_1
def bu7:=byz I4.eq_1 I3.eq_1 JJ.eq_1 JI.eq_1 JK.eq_1 Qf.eq_1 r_fj.eq_1 r_fh.eq_1
def bu8:=byz r_fc.eq_1 r_em.eq_1 r_ez.eq_1 r_fi.eq_1 Qe.eq_1 Qd.eq_1 Qc.eq_1 bog.eq_1
def bu9:=byz bof.eq_1 boe.eq_1 bod.eq_1 boc.eq_1 bob.eq_1 boa.eq_1 bn9.eq_1 bn8.eq_1
def bva:=byz bn7.eq_1 bn6.eq_1 bn5.eq_1 bn4.eq_1 bn3.eq_1 bn2.eq_1 bn1.eq_1 bnz.eq_1
def bvb:=byz bny.eq_1 bnx.eq_1 N3.eq_1 N1.eq_1 N0.eq_1 Nz.eq_1 Ny.eq_1 Nx.eq_1
def bvc:=byz Nw.eq_1 Nv.eq_1 Nu.eq_1 Nt.eq_1 bj0.eq_1 bjz.eq_1 bjy.eq_1 bjx.eq_1
def bvd:=byz bjw.eq_1 bjv.eq_1 bju.eq_1 bjt.eq_1 bjs.eq_1 bjr.eq_1 bjq.eq_1 bjp.eq_1
def bve:=byz NF.eq_1 ND.eq_1 NC.eq_1 NB.eq_1 NA.eq_1 M9.eq_1 M8.eq_1 M7.eq_1
def bvf:=byz M6.eq_1 KB.eq_1 KA.eq_1 J9.eq_1 J8.eq_1 Lq.eq_1 Lp.eq_1 bib.eq_1
def bvg:=byz bia.eq_1 bh9.eq_1 bh8.eq_1 MW.eq_1 MV.eq_1 MU.eq_1 JH.eq_1 JG.eq_1
def bvh:=byz JF.eq_1 J5.eq_1 J4.eq_1 J3.eq_1 J2.eq_1 Mu.eq_1 Mt.eq_1 Ms.eq_1
def bvi:=byz Rb.eq_1 Ra.eq_1 RZ.eq_1 RY.eq_1 brv.eq_1 bru.eq_1 brt.eq_1 brs.eq_1
def bvj:=byz brr.eq_1 tz.eq_1 tx.eq_1 Pw.eq_1 Pv.eq_1 Pu.eq_1 Pt.eq_1 Ps.eq_1
def bvk:=byz Pr.eq_1 Pq.eq_1 Pp.eq_1 Po.eq_1 Pn.eq_1 bma.eq_1 bl9.eq_1 bl7.eq_1
def bvl:=byz bl6.eq_1 bl5.eq_1 bl4.eq_1 bl3.eq_1 bl2.eq_1 bl1.eq_1 bl0.eq_1 blz.eq_1
def bvm:=byz bly.eq_1 blx.eq_1 blw.eq_1 Nn.eq_1 Nl.eq_1 Nk.eq_1 Nj.eq_1 Ni.eq_1
def bvn:=byz Nh.eq_1 Ng.eq_1 Nf.eq_1 Nc.eq_1 bjj.eq_1 ap9.eq_1 ap8.eq_1 ap7.eq_1
def bvo:=byz ap6.eq_1 ap5.eq_1 ap4.eq_1 Jg.eq_1 Jf.eq_1 Je.eq_1 KW.eq_1 KV.eq_1
def bvp:=byz KU.eq_1 P7.eq_1 P6.eq_1 P5.eq_1 P4.eq_1 P3.eq_1 P2.eq_1 P1.eq_1
def bvq:=by2 P0.eq_1
def bvr:=by2 bmm.eq_1
def bvs:=by2 bml.eq_1
def bvt:=by2 bmj.eq_1
attribute [go_sem] abi bt5 bt6 bt7 bt8 bt9 bua bub buc bud bue buf bug buh bui buj buk bul bum bun buo bup buq bur bus buu buv buw bux buy buz bu0 bu1 bu2 bu3 bu4 bu5 bu6 bu7 bu8 bu9 bva bvb bvc bvd bve bvf bvg bvh bvi bvj bvk bvl bvm bvn bvo bvp bvq bvr bvs bvt
