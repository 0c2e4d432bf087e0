import Derived.Test.YtkdiccgfbfbjlaaGreatOrc
import Derived.Test.YtkdiccgfbfbjlaaGreatChecked
import Derived.Test.YtkdiccgfbfbjlaaGreatCodeA
set_option linter.unusedSectionVars false
namespace Go.Proofs.YtkdiccgfbfbjlaaGreat
set_option linter.defProp false
open Go.Ev Go
variable {X:Kx} {K:List Kf} {s:St}
def LS:=rg [
bs3 4 false] [0,1]
def LR:=rg [
bti 5 0,bti 6 1,bs7 7 Ro [(.t 5),(.t 6)],bs5 8 .geq 7 0,btp 4 8] [4]
def Yv:AA:=(.seq LS (.seq LR .ret))
def iF:AN:=⟨2,[.t 4],Yv⟩
def a_cg:=zzy (zzz 1 [LR,LS])
def KF:=rg [
bs3 4 false] [0,1]
def r_eb:=rg [
bti 5 1,btl 6 5,bti 7 6,bta 8 7 true 0,og 9 7 true (.call false Pq [(.t 8),(.c (.fn G6))]),btm 10 7 9,btp 4 10] [4]
def Vq:AA:=(.seq KF (.seq r_eb .ret))
def gO:AN:=⟨2,[.t 4],Vq⟩
def a_de:=zzy (zzz 0 [KF]++[(1,[4])])
def M3:=rg [
oo 4 (.box 1 (.t 1)),oo 6 (.asg (.c .AL)),bs4 7 0] [0,2,4]
def M1:=rg [
bti 13 2,bs5 14 .neq 13 1,bti 15 14,bta 16 15 true 2,og 17 15 true (.bin .neq (.t 16) (ci 2)),btm 18 15 17,bti 19 18,bta 20 19 false 0,og 21 19 false (.load none (.t 4)),og 22 19 false (.call false G8 [(.t 20),(.t 21)]),btn 23 19 22,btp 12 23] [0,2,4,12]
@[go_sem] def Tj:Ops:=[
oo 6 (.asg (.c .AL)),bs4 7 1]
def dL:=rg Tj [6,7]
def M0:=rg [
bti 25 0,btf 26 false 25,bs5 27 .gtr 26 16384,btp 24 27] [0,2,4,24]
@[go_sem] def Ti:Ops:=[
oo 6 (.asg (.c .AL)),bs4 7 4]
def dK:=rg Ti [6,7]
def Mz:=rg [
bti 29 2,bs5 30 .eql 29 1,btp 28 30] [0,4,28]
def My:=rg [
bti 31 0,btg 32 4,bs7 33 Rr [(.t 31),(.t 32)],btq 34 33 0,btq 35 33 1,btp 6 34,btp 7 35] [6,7]
def Mx:=rg [
oo 8 (.alloc [.AL])] [0,4,8]
def Mw:=rg [
bti 36 0,bs7 37 Pk [(.t 36),(ci 512)]] [4,8,37]
def bgk:=rg [
btp 9 38] [4,8,9]
def aae:AA:=bgk
def boi:=btb aae.eq_1
def am4:=rg [
oo 10 (.asg (.c .AL))] [4,8,9]
def am3:=rg [
bti 39 9,btg 40 4,bs7 41 Hr [(.c .AL),(.t 39),(.t 40)],btp 10 41] [4,8,9,10]
def am2:=rg [
bti 42 9,btg 43 4,bs7 44 Rj [(.t 42),(.t 43)],btp 11 44] [8,10,11]
def am1:=rg [
bti 45 11,btf 46 false 45,bti 47 10,btf 48 false 47,bs6 49 .lss 46 48] [8,10,11,49]
def am0:=rg [
bti 50 11,btp 10 50] [8,10]
def amz:=rg [
btg 51 8,bti 52 10,oo 53 (.append 1 1 (.t 51) (.t 52)),bto 1 8 53] []
def aad:AA:=(.block 2 (.seq am4 (.seq am3 (.seq (.seq am2 (.seq am1 (.cond (.t 49) am0 .skip))) amz))))
def boj:=btb aad.eq_1
def amy:=rg [
btg 54 8,bs7 55 FX [(.t 54)],btp 6 55,bs4 7 0] [6,7]
def Vv:AA:=(.seq M3 (.seq (.block 0 (.seq M1 (.cond (.t 12) (.seq dL .ret) (.seq M0 (.cond (.t 24) (.seq dK .ret) (.seq Mz (.cond (.t 28) (.seq My .ret) .skip))))))) (.seq Mx (.seq (.seq Mw (.block 1 (.each (.t 37) [38] aae aad))) (.seq amy .ret)))))
def jC:AN:=⟨3,[.t 6,.t 7],Vv⟩
def a_bb:AJ:=⟨[53],zzz 9 [bgk,Mw,Mx,My,Mz,.ret,M0,.ret,M1,M3]++[(16,[6,7]),(15,[]),(14,[8,10]),(13,[8,10,11,49]),(12,[8,10,11]),(11,[4,8,9,10]),(10,[4,8,9]),(2,[6,7]),(4,[6,7])],[],[],[],[]⟩
def La:=rg [
bti 11 2,bti 12 3,bti 13 0,btj 14 13,bs8 15 1 14,bs8 16 2 15,btg 17 16,bs7 18 Pt [(.t 11),(.t 12),(.t 17)],bti 10 18,btq 19 10 0,btq 20 10 1,btp 8 19,btp 9 20] [0,1,8,9]
def LZ:=rg [
bti 21 9,bs5 22 .neq 21 0,bti 23 22,bta 24 23 true 0,og 25 23 true (.FC (.t 24)),og 26 23 true (.AV 10 (.t 25)),og 27 23 true (.load none (.t 26)),og 28 23 true (.bin .eql (.t 27) (ci 0)),btm 29 23 28] [0,1,8,9,29]
@[go_sem] def Ta:Ops:=[
bti 30 0,bti 31 9,btj 32 30,bs8 33 10 32,bto 1 33 31]
def dF:=rg Ta [0,1,8]
def LY:=rg [
bti 34 0,btj 35 34,bs8 36 1 35,bs8 37 2 36,btg 38 37,bs5 39 .eql 38 2] [0,1,8,39]
def LX:=rg [
bti 40 0,btj 41 40,bs8 42 7 41,bs8 43 0 42,btg 44 43,bs5 45 .or 44 2,btj 46 40,bs8 47 7 46,bs8 48 0 47,bto 1 48 45] [0,1,8]
def LW:=rg [
bti 49 0,bti 50 1,bti 51 8,bs7 52 FZ [(.t 49),(.t 50),(.t 51)]] []
def Gc:AA:=(.seq La (.seq (.seq LZ (.cond (.t 29) dF .skip)) (.seq (.seq LY (.cond (.t 39) LX .skip)) LW)))
def iH:AN:=⟨4,[],Gc⟩
def a_ce:=zzy (zzz 5 [LW,LX,LY,.ret,LZ,La]++[(2,[0,1,8])])
def KQ:=rg [
bs4 2 0] [0]
def KP:=rg [
bti 3 0,bs5 4 .sub 3 1420070400,btp 2 4] [2]
def Yp:AA:=(.seq KQ (.seq KP .ret))
def gR:AN:=⟨1,[.t 2],Yp⟩
def a_d9:=zzy (zzz 1 [KP,KQ])
def NA:=rg [
oo 4 (.asg (.c .AL))] [0,1]
def M9:=rg [
bti 8 0,btf 9 false 8,oo 10 (.mkS 1 8 (.int .i64 0) (.t 9) (.t 9)),btp 5 10] [0,1,5]
def M8:=rg [
bti 11 0,btf 12 false 11,oo 13 (.mv (ci 0))] [1,5,11,12,13]
def bgu:=rg [
bs6 14 .lss 13 12] [1,5,11,12,13,14]
def bgt:=rg [
bti 15 13,btd 16 1 11 13,btg 17 16,btp 6 15,btp 7 17] [1,5,6,7,11,12,13]
def bgs:=rg [
bti 18 5,bti 19 6,bti 20 1,bti 21 7,oo 22 (.CD false (.t 20) [(.t 21)]),btd 23 1 18 19,bto 1 23 22] [1,5,11,12,13]
def bgr:=rg [
bs5 24 .add 13 1,bti 13 24] [1,5,11,12,13]
def bn8:AA:=(.seq bgu (.seq (.cond (.t 14) .skip (.exit 0)) (.seq (.block 1 (.seq bgt bgs)) bgr)))
def bok:=btb bn8.eq_1
def bgq:=rg [
bti 25 5,btp 4 25] [4]
def Y4:AA:=(.seq NA (.seq M9 (.seq (.seq M8 (.block 0 (.loop bn8))) (.seq bgq .ret))))
def jE:AN:=⟨2,[.t 4],Y4⟩
def a_b9:=zzy (zzz 6 [bgr,bgs,bgt,bgu,M8,M9,NA]++[(7,[4])])
def KI:=rg [
oo 2 (.asg (.c .AL))] [0]
def KH:=rg [
bti 6 0,btf 7 false 6,oo 8 (.mkS 1 1 (.int .u8 0) (.t 7) (.t 7)),btp 3 8] [0,3]
def KG:=rg [
bti 9 0,btf 10 false 9,oo 11 (.mv (ci 0))] [3,9,10,11]
def bd4:=rg [
bs6 12 .lss 11 10] [3,9,10,11,12]
def bd3:=rg [
bti 13 11,btd 14 1 9 11,btg 15 14,btp 4 13,btp 5 15] [3,4,5,9,10,11]
def bd2:=rg [
bti 16 3,bti 17 4,bti 18 5,oo 19 (.Aj .u8 (.t 18)),btd 20 1 16 17,bto 1 20 19] [3,9,10,11]
def bd1:=rg [
bs5 21 .add 11 1,bti 11 21] [3,9,10,11]
def bnw:AA:=(.seq bd4 (.seq (.cond (.t 12) .skip (.exit 0)) (.seq (.block 1 (.seq bd3 bd2)) bd1)))
def bol:=btb bnw.eq_1
def bd0:=rg [
bti 22 3,btp 2 22] [2]
def Yo:AA:=(.seq KI (.seq KH (.seq (.seq KG (.block 0 (.loop bnw))) (.seq bd0 .ret))))
def gP:AN:=⟨1,[.t 2],Yo⟩
def a_db:=zzy (zzz 6 [bd1,bd2,bd3,bd4,KG,KH,KI]++[(7,[2])])
def KZ:=rg [
oo 4 (.asg (.c .AL))] [0,1]
def KY:=rg [
bti 6 0,oo 7 (.bin .shl (.t 6) (.c (.int .u64 1))),btp 5 7] [1,5]
def KX:=rg [
bti 8 1] [5,8]
def KW:=rg [
bti 9 5,bs5 10 .or 9 1,btp 5 10] [5]
def KV:=rg [
bti 11 5,oo 12 (.Aj .u8 (.t 11)),bti 13 5,oo 14 (.bin .shr (.t 13) (.c (.int .u64 8))),oo 15 (.Aj .u8 (.t 14)),bti 16 5,oo 17 (.bin .shr (.t 16) (.c (.int .u64 16))),oo 18 (.Aj .u8 (.t 17)),oo 19 (.lit false 1 3 (.int .u8 0) [(0,(.t 12)),(1,(.t 15)),(2,(.t 18))]),btp 4 19] [4]
def Vs:AA:=(.seq KZ (.seq KY (.seq (.seq KX (.cond (.t 8) KW .skip)) (.seq KV .ret))))
def gV:AN:=⟨2,[.t 4],Vs⟩
def a_d6:=zzy (zzz 4 [KV,KW,KX,KY,KZ])
def Jo:=rg [
oo 4 (.asg (.c .AL))] [0,1]
def Jn:=rg [
bti 5 1,bs5 6 .lss 5 15] [0,1,6]
def Jm:=rg [
bti 7 0,btp 4 7] [4]
def Jl:=rg [
bti 8 1,bs5 9 .sub 8 15,btp 1 9] [0,1]
def bdv:=rg [
bti 10 1,bs5 11 .geq 10 255] [0,1,11]
def bdu:=rg [
bti 14 0,oo 15 (.lit false 1 1 (.int .u8 0) [(0,(.c (.int .u8 255)))]),oo 16 (.append 1 1 (.t 14) (.t 15)),btp 0 16] [0,1]
def bdt:=rg [
bti 12 1,bs5 13 .sub 12 255,btp 1 13] [0,1]
def bnu:AA:=(.seq (.seq bdv (.cond (.t 11) .skip (.exit 0))) (.seq (.block 1 bdu) bdt))
def bom:=btb bnu.eq_1
def bds:=rg [
bti 17 0,bti 18 1,oo 19 (.Aj .u8 (.t 18)),oo 20 (.lit false 1 1 (.int .u8 0) [(0,(.t 19))]),oo 21 (.append 1 1 (.t 17) (.t 20)),btp 4 21] [4]
def Yk:AA:=(.seq Jo (.seq Jn (.cond (.t 6) (.seq Jm .ret) (.seq (.seq Jl (.block 0 (.loop bnu))) (.seq bds .ret)))))
def gI:AN:=⟨2,[.t 4],Yk⟩
def a_dl:AJ:=⟨[16],zzz 6 [bdt,bdu,bdv,Jl,Jm,Jn,Jo]++[(7,[4])],[],[],[],[]⟩
def J2:=rg [
oo 8 (.asg (.c .AL))] [0,1,2,3]
def J1:=rg [
bs4 9 0] [0,1,2,3,9]
def J0:=rg [
bti 10 3,bs5 11 .gtr 10 0] [0,1,2,3,9,11]
def Jz:=rg [
bti 12 3,bs5 13 .sub 12 4,oo 14 (.B2 false [(.t 13),(ci 15)]),btp 9 14] [0,1,2,3,9]
def Jy:=rg [
bti 15 0,bti 16 1,btf 17 false 16,oo 18 (.B2 false [(.t 17),(ci 15)]),oo 19 (.bin .shl (.t 18) (.c (.int .u64 4))),bti 20 9,bs6 21 .or 19 20,oo 22 (.Aj .u8 (.t 21)),oo 23 (.lit false 1 1 (.int .u8 0) [(0,(.t 22))]),oo 24 (.append 1 1 (.t 15) (.t 23)),btp 0 24] [0,1,2,3]
def Jw:=rg [
bti 25 0,bti 26 1,btf 27 false 26,oo 28 (.Cr true RF [(.t 25),(.t 27)] 0),btp 0 28] [0,1,2,3]
def Jv:=rg [
bti 29 0,bti 30 1,oo 31 (.append 1 1 (.t 29) (.t 30)),btp 0 31] [0,2,3]
def Ju:=rg [
bti 32 3,bs5 33 .eql 32 0] [0,2,3,33]
def Jt:=rg [
bti 34 0,btp 8 34] [8]
def Js:=rg [
bti 35 0,bti 36 2,oo 37 (.Aj .u8 (.t 36)),bti 38 2,oo 39 (.bin .shr (.t 38) (.c (.int .u64 8))),oo 40 (.Aj .u8 (.t 39)),oo 41 (.lit false 1 2 (.int .u8 0) [(0,(.t 37)),(1,(.t 40))]),oo 42 (.append 1 1 (.t 35) (.t 41)),bti 43 3,bs5 44 .sub 43 4,oo 45 (.Cr true RF [(.t 42),(.t 44)] 0),btp 8 45] [8]
def IC:AA:=(.seq J2 (.seq J1 (.seq (.seq J0 (.cond (.t 11) Jz .skip)) (.seq Jy (.seq Jw (.seq Jv (.seq Ju (.cond (.t 33) (.seq Jt .ret) (.seq Js .ret)))))))))
def Xr:AN:=⟨4,[.t 8],IC⟩
def a_di:AJ:=⟨[24,28,31,42,45],zzz 9 [Js,Jt,Ju,Jv,Jw,Jy,Jz,J0,J1,J2],[],[],[(28,0),(45,0)],[]⟩
def OO:=rg [
bs3 4 false] [0,1]
def ON:=rg [
bti 6 0,btf 7 false 6,bti 8 1,btf 9 false 8,bs6 10 .neq 7 9] [0,1,10]
@[go_sem] def Ts:Ops:=[
bs3 4 false]
def dU:=rg Ts [4]
def OM:=rg [
bti 11 0,btf 12 false 11,oo 13 (.mv (ci 0))] [0,1,12,13]
def bik:=rg [
bs6 14 .lss 13 12] [0,1,12,13,14]
def bij:=rg [
bti 15 13,btp 5 15] [0,1,5,12,13]
@[go_sem] def a6a:Ops:=[
bti 16 0,bti 17 5,btd 18 1 16 17,btg 19 18,bti 20 1,bti 21 5,btd 22 1 20 21,btg 23 22,bs6 24 .neq 19 23]
def a6b:List (Nat×Nat):=[(0,1),(0,4),(1,4),(2,4),(3,4),(0,5),(1,5),(2,5),(3,5),(4,5),(0,6),(1,6),(2,6),(3,6),(0,7),(1,7),(2,7),(3,7)]
def bii:AA:= .region a6a a6b [0,1,12,13,24]
@[go_sem] theorem r_ao_6_u:Gu X K s bii a6b a6a [0,1,12,13,24]:=go_regionU' _ _ _ _
def bih:=rg [
bs3 4 false] [4]
def big:=rg [
bs5 25 .add 13 1,bti 13 25] [0,1,12,13]
def bob:AA:=(.seq bik (.seq (.cond (.t 14) .skip (.exit 0)) (.seq (.block 1 (.seq bij (.seq bii (.cond (.t 24) (.seq bih .ret) .skip)))) big)))
def bon:=btb bob.eq_1
def an7:=rg [
bs3 4 true] [4]
def Y8:AA:=(.seq OO (.seq ON (.cond (.t 10) (.seq dU .ret) (.seq (.seq OM (.block 0 (.loop bob))) (.seq an7 .ret)))))
def jQ:AN:=⟨2,[.t 4],Y8⟩
def a_ao:=zzy (zzz 8 [big,bih,.ret,bij,bik,OM,.ret,ON,OO]++[(9,[4]),(6,[0,1,12,13,24]),(2,[4])])
def bdr:=rg [
bs4 2 0] [0]
@[go_sem] def asu:Ops:=[
bti 4 0,oo 5 (.Ch 1 (.t 4) (ci 0)),btg 6 5,oo 7 (.Aj .u32 (.t 6)),bti 8 0,oo 9 (.Ch 1 (.t 8) (ci 1)),btg 10 9,oo 11 (.Aj .u32 (.t 10)),oo 12 (.bin .shl (.t 11) (.c (.int .u64 8))),bs6 13 .or 7 12,bti 14 0,oo 15 (.Ch 1 (.t 14) (ci 2)),btg 16 15,oo 17 (.Aj .u32 (.t 16)),oo 18 (.bin .shl (.t 17) (.c (.int .u64 16))),bs6 19 .or 13 18,bti 20 0,oo 21 (.Ch 1 (.t 20) (ci 3)),btg 22 21,oo 23 (.Aj .u32 (.t 22)),oo 24 (.bin .shl (.t 23) (.c (.int .u64 24))),bs6 25 .or 19 24,btp 3 25]
def asv:List (Nat×Nat):=[(0,4),(1,4),(2,4),(3,4),(0,5),(1,5),(2,5),(3,5),(0,6),(1,6),(2,6),(3,6),(0,7),(1,7),(2,7),(3,7),(0,8),(1,8),(2,8),(3,8),(0,10),(1,10),(2,10),(3,10),(4,10),(5,10),(6,10),(7,10),(8,10),(9,10),(0,11),(1,11),(2,11),(3,11),(4,11),(5,11),(6,11),(7,11),(8,11),(9,11),(0,12),(1,12),(2,12),(3,12),(4,12),(5,12),(6,12),(7,12),(8,12),(9,12),(0,13),(1,13),(2,13),(3,13),(4,13),(5,13),(6,13),(7,13),(8,13),(9,13),(0,14),(1,14),(2,14),(3,14),(4,14),(5,14),(6,14),(7,14),(8,14),(9,14),(0,16),(1,16),(2,16),(3,16),(4,16),(5,16),(6,16),(7,16),(8,16),(9,16),(10,16),(11,16),(12,16),(13,16),(14,16),(15,16),(0,17),(1,17),(2,17),(3,17),(4,17),(5,17),(6,17),(7,17),(8,17),(9,17),(10,17),(11,17),(12,17),(13,17),(14,17),(15,17),(0,18),(1,18),(2,18),(3,18),(4,18),(5,18),(6,18),(7,18),(8,18),(9,18),(10,18),(11,18),(12,18),(13,18),(14,18),(15,18),(0,19),(1,19),(2,19),(3,19),(4,19),(5,19),(6,19),(7,19),(8,19),(9,19),(10,19),(11,19),(12,19),(13,19),(14,19),(15,19),(0,20),(1,20),(2,20),(3,20),(4,20),(5,20),(6,20),(7,20),(8,20),(9,20),(10,20),(11,20),(12,20),(13,20),(14,20),(15,20)]
def bdq:AA:= .region asu asv [3]
@[go_sem] theorem r_fh_1_u:Gu X K s bdq asv asu [3]:=go_regionU' _ _ _ _
@[go_sem] def ast:Ops:=[
bti 26 3,oo 27 (.bin .mul (.t 26) (.c (.int .u32 2654435761))),oo 28 (.bin .shr (.t 27) (.c (.int .u64 20))),oo 29 (.Aj .i64 (.t 28)),btp 2 29]
def abs:=rg ast [2]
def Vj:AA:=(.seq bdr (.seq bdq (.seq abs .ret)))
def fM:AN:=⟨1,[.t 2],Vj⟩
def a_fh:=zzy (zzz 0 [bdr]++[(2,[2]),(1,[3])])
def NO:=rg [
oo 4 (.asg (.c .AL))] [0,1]
def NN:=rg [
oo 5 (.asg (.c .AL))] [0,1,5]
def NM:=rg [
bs4 6 0] [0,1,5,6]
def NL:=rg [
bs4 7 0] [0,1,5,6,7]
def bg0:=rg [
bti 11 7,bs5 12 .add 11 4,bti 13 1,btf 14 false 13,bs6 15 .leq 12 14] [0,1,5,6,7,15]
def bgz:=rg [
bti 16 1,bti 17 7,oo 18 (.slice 1 (.t 16) (some (.t 17)) none none),bs7 19 Q2 [(.t 18)],btp 8 19] [0,1,5,6,7,8]
def bgy:=rg [
bti 20 0,bti 21 8,btd 22 1 20 21,btg 23 22,btp 9 23] [0,1,5,6,7,8,9]
def bgx:=rg [
bti 24 0,bti 25 8,bti 26 7,btd 27 1 24 25,bto 1 27 26] [0,1,5,6,7,9]
@[go_sem] def a3u:Ops:=[
bti 28 9,bs5 29 .lss 28 0,bti 30 29,bta 31 30 false 7,bta 32 30 false 9,og 33 30 false (.bin .sub (.t 31) (.t 32)),og 34 30 false (.bin .gtr (.t 33) (ci 65535)),btn 35 30 34,bti 36 35,bta 37 36 false 1,bta 38 36 false 9,bta 39 36 false 9,og 40 36 false (.bin .add (.t 39) (ci 4)),og 41 36 false (.slice 1 (.t 37) (some (.t 38)) (some (.t 40)) none),bta 42 36 false 1,bta 43 36 false 7,bta 44 36 false 7,og 45 36 false (.bin .add (.t 44) (ci 4)),og 46 36 false (.slice 1 (.t 42) (some (.t 43)) (some (.t 45)) none),og 47 36 false (.call false Rn [(.t 41),(.t 46)]),og 48 36 false (.un .not (.t 47)),btn 49 36 48]
def a3v:List (Nat×Nat):=[(3,4),(9,10),(9,11),(10,11),(9,12),(10,12),(9,14),(10,14),(11,14),(12,14),(13,14),(9,15),(10,15),(11,15),(12,15),(13,15),(14,15),(9,16),(10,16),(11,16),(12,16),(13,16),(14,16),(15,16),(9,17),(10,17),(11,17),(12,17),(13,17),(14,17),(15,17),(9,18),(10,18),(11,18),(12,18),(13,18)]
def bgw:AA:= .region a3u a3v [0,1,5,6,7,9,49]
@[go_sem] theorem r_b6_8_u:Gu X K s bgw a3v a3u [0,1,5,6,7,9,49]:=go_regionU' _ _ _ _
def bgv:=rg [
bti 50 7,bs5 51 .add 50 1,btp 7 51] [0,1,5,6,7]
def am7:=rg [
bs4 10 4] [0,1,5,6,7,9,10]
@[go_sem] def adt:Ops:=[
bti 52 7,bti 53 10,bs6 54 .add 52 53,bti 55 1,btf 56 false 55,bs6 57 .lss 54 56,bti 58 57,bta 59 58 true 1,bta 60 58 true 9,bta 61 58 true 10,og 62 58 true (.bin .add (.t 60) (.t 61)),og 63 58 true (.Ch 1 (.t 59) (.t 62)),og 64 58 true (.load none (.t 63)),bta 65 58 true 1,bta 66 58 true 7,bta 67 58 true 10,og 68 58 true (.bin .add (.t 66) (.t 67)),og 69 58 true (.Ch 1 (.t 65) (.t 68)),og 70 58 true (.load none (.t 69)),og 71 58 true (.bin .eql (.t 64) (.t 70)),btm 72 58 71]
def adu:List (Nat×Nat):=[(0,1),(0,3),(1,3),(2,3),(0,4),(1,4),(2,4),(7,8),(7,9),(8,9),(7,10),(7,13),(8,13),(9,13),(10,13),(11,13),(12,13),(7,14),(8,14),(9,14),(10,14),(11,14),(12,14),(13,14),(7,15),(8,15),(9,15),(10,15),(11,15),(12,15),(13,15),(14,15),(7,16),(8,16),(9,16),(10,16),(11,16),(12,16),(13,16),(7,17),(8,17),(9,17),(10,17),(11,17),(12,17),(7,18),(8,18),(9,18),(10,18),(11,18),(12,18)]
def am6:AA:= .region adt adu [0,1,5,6,7,9,10,72]
@[go_sem] theorem r_b6_11_u:Gu X K s am6 adu adt [0,1,5,6,7,9,10,72]:=go_regionU' _ _ _ _
def am5:=rg [
bti 73 10,bs5 74 .add 73 1,btp 10 74] [0,1,5,6,7,9,10]
def aah:AA:=(.seq (.seq am6 (.cond (.t 72) .skip (.exit 2))) (.block 3 am5))
def boo:=btb aah.eq_1
def yf:=rg [
bti 75 5,bti 76 1,bti 77 6,bti 78 7,oo 79 (.slice 1 (.t 76) (some (.t 77)) (some (.t 78)) none),bti 80 7,bti 81 9,bs6 82 .sub 80 81,bti 83 10,oo 84 (.Cr true GY [(.t 75),(.t 79),(.t 82),(.t 83)] 0),btp 5 84] [0,1,5,7,10]
def ye:=rg [
bti 85 7,bti 86 10,bs6 87 .add 85 86,btp 7 87] [0,1,5,7]
def yd:=rg [
bti 88 7,btp 6 88] [0,1,5,6,7]
def aag:AA:=(.seq (.seq bg0 (.cond (.t 15) .skip (.exit 0))) (.block 1 (.seq bgz (.seq bgy (.seq bgx (.seq (.seq bgw (.cond (.t 49) (.seq bgv (.exit 1)) .skip)) (.seq am7 (.seq (.block 2 (.loop aah)) (.seq yf (.seq ye yd))))))))))
def bop:=btb aag.eq_1
def yc:=rg [
bti 89 5,bti 90 1,bti 91 6,oo 92 (.slice 1 (.t 90) (some (.t 91)) none none),oo 93 (.Cr true GY [(.t 89),(.t 92),(ci 0),(ci 0)] 0),btp 4 93] [4]
def nL:AA:=(.seq NO (.seq NN (.seq NM (.seq (.seq NL (.block 0 (.loop aag))) (.seq yc .ret)))))
def jH:AN:=⟨2,[.t 4],nL⟩
def a_b6:AJ:=⟨[84,93],zzz 12 [am5,.ret,am7,bgv,.ret,bgx,bgy,bgz,bg0,NL,NM,NN,NO]++[(16,[4]),(15,[0,1,5,6,7]),(14,[0,1,5,7]),(13,[0,1,5,7,10]),(11,[0,1,5,6,7,9,10,72]),(8,[0,1,5,6,7,9,49])],[],[],[(84,0),(93,0)],[]⟩
def JR:=rg [
oo 2 (.asg (.c .AL))] [0]
def JQ:=rg [
bti 5 0,btf 6 false 5,bs5 7 .gtr 6 1048576] [0,7]
@[go_sem] def TP:Ops:=[
oo 2 (.asg (.c .AL))]
def cY:=rg TP [2]
def JP:=rg [
oo 8 (.call true Qw []),bti 9 0,oo 10 (.Cr false UW [(.t 8),(.t 9)] 0),btp 3 10] [0,3]
def JO:=rg [
bti 11 0,oo 12 (.Cr false GY [(.c .AL),(.t 11),(ci 0),(ci 0)] 0),btp 4 12] [3,4]
def JN:=rg [
bti 13 4,btf 14 false 13,bti 15 3,btf 16 false 15,bs6 17 .lss 14 16] [3,4,17]
def JM:=rg [
bti 18 4,btp 3 18] [3]
def JL:=rg [
bti 19 3,bs7 20 FX [(.t 19)],btp 2 20] [2]
def Vn:AA:=(.seq JR (.seq JQ (.cond (.t 7) (.seq cY .ret) (.seq JP (.seq (.seq JO (.seq JN (.cond (.t 17) JM .skip))) (.seq JL .ret))))))
def fZ:AN:=⟨1,[.t 2],Vn⟩
def a_dy:AJ:=⟨[8],zzz 7 [JL,JM,JN,JO,JP,.ret,JQ,JR]++[(2,[2])],[],[],[(10,0),(12,0)],[]⟩
def ND:=rg [
oo 2 (.asg (.c .AL))] [0]
def NC:=rg [
bti 3 0,oo 4 (.isNil false (.t 3))] [0,4]
@[go_sem] def Tl:Ops:=[
oo 2 (.asg (.c .AL))]
def dM:=rg Tl [2]
def NB:=rg [
oo 5 (.lit true 1 0 (.int .u8 0) []),bti 6 0,oo 7 (.append 1 1 (.t 5) (.t 6)),btp 2 7] [2]
def Y5:AA:=(.seq ND (.seq NC (.cond (.t 4) (.seq dM .ret) (.seq NB .ret))))
def jF:AN:=⟨1,[.t 2],Y5⟩
def a_b8:AJ:=⟨[5],zzz 3 [NB,.ret,NC,ND]++[(2,[2])],[],[],[],[]⟩
@[go_sem] def TK:Ops:=[
bs3 2 false]
def cV:=rg TK [0]
@[go_sem] def TJ:Ops:=[
bti 3 0]
def cU:=rg TJ [3]
@[go_sem] def TH:Ops:=[
bs5 5 .eql 3 0,btp 4 5]
def cT:=rg TH [3,4]
@[go_sem] def TG:Ops:=[
bs5 7 .eql 3 4,btp 6 7]
def cS:=rg TG [6]
@[go_sem] def TF:Ops:=[
bs3 2 true]
def cR:=rg TF [2]
@[go_sem] def TE:Ops:=[
bs3 2 false]
def cQ:=rg TE [2]
def c_ft:AA:=(.seq cV (.seq (.seq cU (.block 0 (.seq (.block 2 (.block 1 (.seq (.seq (.seq cT (.cond (.t 4) (.exit 1) .skip)) (.seq cS (.cond (.t 6) (.exit 2) .skip))) (.exit 0)))) (.seq (.seq cR .ret) (.exit 0))))) (.seq cQ .ret)))
def i_ft:AN:=⟨1,[.t 2],c_ft⟩
def a_ft:=zzy ([(5,[2]),(4,[2]),(3,[6]),(2,[3,4]),(1,[3]),(0,[0])])
def NW:=rg [
oo 6 (.asg (.c .AL)),bs4 7 0] [0,1,2]
def NU:=rg [
bti 13 1,bs7 14 Xe [(.t 13)],btl 15 14,btp 12 15] [0,1,2,12]
@[go_sem] def Tn:Ops:=[
oo 6 (.asg (.c .AL)),bs4 7 7]
def dO:=rg Tn [6,7]
def NT:=rg [
bti 17 2,bs5 18 .lss 17 1,bti 19 18,bta 20 19 false 2,og 21 19 false (.bin .gtr (.t 20) (ci 65536)),btn 22 19 21,btp 16 22] [0,1,2,16]
@[go_sem] def Tm:Ops:=[
oo 6 (.asg (.c .AL)),bs4 7 1]
def dN:=rg Tm [6,7]
def NS:=rg [
bti 24 1,bs5 25 .eql 24 0,btp 23 25] [0,2,23]
def NR:=rg [
bti 26 0,bs7 27 EH [(.t 26)],bs7 28 FX [(.t 27)],btp 6 28,bs4 7 0] [6,7]
def NQ:=rg [
oo 8 (.alloc [.AL])] [0,2,8]
def NP:=rg [
bti 29 0,bti 30 2,bs7 31 Pj [(.t 29),(.t 30)]] [8,31]
def bg1:=rg [
btp 9 32] [8,9]
def arl:AA:=bg1
def boq:=btb arl.eq_1
def ane:=rg [
bti 33 9,bs7 34 Q8 [(.t 33)],btp 10 34] [8,9,10]
def anc:=rg [
bti 35 10,btf 36 false 35,bti 37 9,btf 38 false 37,bs6 39 .geq 36 38,btp 11 39] [8,9,10,11]
def anb:=rg [
bti 40 11] [8,9,10,11,40]
def ana:=rg [
bti 41 9,btp 10 41] [8,10,11]
@[go_sem] def adx:Ops:=[
btg 42 8,bti 43 10,btf 44 false 43,bti 45 11,bs7 46 RK [(.t 44),(.t 45)],oo 47 (.append 1 1 (.t 42) (.t 46)),bti 48 10,oo 49 (.append 1 1 (.t 47) (.t 48)),bto 1 8 49]
def ady:List (Nat×Nat):=[(0,1),(0,2),(0,3),(1,3),(2,3),(0,4),(0,6),(1,6),(2,6),(3,6),(4,6),(5,6)]
def am9:AA:= .region adx ady []
@[go_sem] theorem r_az_15_u:Gu X K s am9 ady adx []:=go_regionU' _ _ _ _
def ark:AA:=(.block 2 (.seq ane (.seq anc (.seq (.seq anb (.cond (.t 40) ana .skip)) am9))))
def bos:=btb ark.eq_1
def am8:=rg [
btg 50 8,bs7 51 FX [(.t 50)],btp 6 51,bs4 7 0] [6,7]
def SF:AA:=(.seq NW (.seq (.block 0 (.seq NU (.cond (.t 12) (.seq dO .ret) (.seq NT (.cond (.t 16) (.seq dN .ret) (.seq NS (.cond (.t 23) (.seq NR .ret) .skip))))))) (.seq NQ (.seq (.seq NP (.block 1 (.each (.t 31) [32] arl ark))) (.seq am8 .ret)))))
def jI:AN:=⟨3,[.t 6,.t 7],SF⟩
def a_az:AJ:=⟨[47,49],zzz 9 [bg1,NP,NQ,NR,NS,.ret,NT,.ret,NU,NW]++[(15,[6,7]),(14,[]),(13,[8,10,11]),(12,[8,9,10,11,40]),(11,[8,9,10,11]),(10,[8,9,10]),(2,[6,7]),(4,[6,7])],[],[],[],[]⟩
@[go_sem] def a0c:Ops:=[
bti 9 2,bti 10 0,btj 11 10,bs8 12 1 11,bs8 13 0 12,btg 14 13,bti 15 0,btj 16 15,bs8 17 1 16,bs8 18 1 17,btg 19 18,bs7 20 Rg [(.t 9),(.t 14),(.t 19)],bti 8 20,btq 21 8 0,btq 22 8 1,btp 6 21,btp 7 22]
def a0d:List (Nat×Nat):=[(0,1),(0,2),(0,3),(0,4),(0,5),(0,6),(1,6),(2,6),(3,6),(4,6),(5,6),(0,7),(1,7),(2,7),(3,7),(4,7),(5,7),(0,8),(1,8),(2,8),(3,8),(4,8),(5,8),(0,9),(1,9),(2,9),(3,9),(4,9),(5,9),(0,10),(1,10),(2,10),(3,10),(4,10),(5,10),(13,14),(14,15)]
def Tf:AA:= .region a0c a0d [0,1,2,6,7]
@[go_sem] theorem r_br_0_u:Gu X K s Tf a0d a0c [0,1,2,6,7]:=go_regionU' _ _ _ _
def L9:=rg [
bti 23 2,btf 24 false 23,bs5 25 .gtr 24 262144] [0,1,6,7,25]
def L8:=rg [
bs4 7 4] [0,1,6,7]
def L7:=rg [
bti 26 7,bs5 27 .neq 26 0,bti 28 27,bta 29 28 true 0,og 30 28 true (.FC (.t 29)),og 31 28 true (.AV 10 (.t 30)),og 32 28 true (.load none (.t 31)),og 33 28 true (.bin .eql (.t 32) (ci 0)),btm 34 28 33] [0,1,6,7,34]
def L6:=rg [
bti 35 0,bti 36 7,btj 37 35,bs8 38 10 37,bto 1 38 36] [0,1,6]
@[go_sem] def az6:Ops:=[
bti 39 0,bti 40 0,btj 41 40,bs8 42 9 41,btg 43 42,bti 44 1,bti 45 0,btj 46 45,bs8 47 0 46,btg 48 47,bti 49 6,oo 50 (.build [(.int .i64 0),(.int .i64 0),.AL] [(0,1,(.t 44)),(1,1,(.t 48)),(2,1,(.t 49))]),oo 51 (.lit false 3 1 (.agg [(.int .i64 0),(.int .i64 0),(.sl [])]) [(0,(.t 50))]),oo 52 (.append 3 40 (.t 43) (.t 51)),btj 53 39,bs8 54 9 53,bto 1 54 52]
def az7:List (Nat×Nat):=[(0,1),(0,2),(0,3),(0,4),(0,5),(1,5),(2,5),(3,5),(4,5),(0,6),(1,6),(2,6),(3,6),(4,6),(5,6),(0,7),(1,7),(2,7),(3,7),(4,7),(5,7),(0,8),(1,8),(2,8),(3,8),(4,8),(5,8),(0,9),(1,9),(2,9),(3,9),(4,9),(5,9),(0,10),(1,10),(2,10),(3,10),(4,10),(5,10),(6,10),(7,10),(8,10),(9,10),(0,11),(1,11),(2,11),(3,11),(4,11),(0,12),(1,12),(2,12),(3,12),(4,12),(0,13)]
def Te:AA:= .region az6 az7 []
@[go_sem] theorem r_br_5_u:Gu X K s Te az7 az6 []:=go_regionU' _ _ _ _
def FK:AA:=(.seq Tf (.seq (.seq L9 (.cond (.t 25) L8 .skip)) (.seq (.seq L7 (.cond (.t 34) L6 .skip)) Te)))
def iR:AN:=⟨3,[],FK⟩
def a_br:AJ:=⟨[52],zzz 4 [L6,L7,L8,L9]++[(5,[]),(0,[0,1,2,6,7])],[],[],[],[]⟩
def Lh:=rg [
btg 3 0,bs7 4 Pj [(.t 3),(ci 128)]] [0,1,4]
def bez:=rg [
btp 2 5] [1,2]
def bn2:AA:=bez
def bot:=btb bn2.eq_1
def bey:=rg [
btg 6 1,bti 7 2,btf 8 false 7,oo 9 (.bin .sub (ci 256) (.t 8)),oo 10 (.Aj .u8 (.t 9)),oo 11 (.lit false 1 1 (.int .u8 0) [(0,(.t 10))]),oo 12 (.append 1 1 (.t 6) (.t 11)),bti 13 2,oo 14 (.append 1 1 (.t 12) (.t 13)),bto 1 1 14] []
def bn1:AA:=(.block 1 bey)
def bou:=btb bn1.eq_1
def bex:=rg [
ow (.store 1 (.t 0) (.c .AL))] []
def Yy:AA:=(.seq (.seq (.seq (.AU [0]) Lh) (.block 0 (.each (.t 4) [5] bn2 bn1))) bex)
def iL:AN:=⟨2,[],Yy⟩
def a_c8:AJ:=⟨[12,14],zzz 3 [bey,.ret,bez,Lh]++[(2,[])],[],[],[],[(0,[0])]⟩
def OT:=rg [
oo 2 (.asg (.c .AL))] [0]
def r_c8:=rg [
oo 3 (.alloc [.AL]),oo 4 (.alloc [.AL])] [0,3,4]
def OS:=rg [
oo 8 (.mkF RW [] [(.t 4),(.t 3)]),btp 5 8] [0,3,4,5]
def OR:=rg [
bs4 6 0] [0,3,4,5,6]
def biv:=rg [
bti 9 6,bti 10 0,btf 11 false 10,bs6 12 .lss 9 11] [0,3,4,5,6,12]
def biu:=rg [
bs4 7 1] [0,3,4,5,6,7]
@[go_sem] def a6r:Ops:=[
bti 13 6,bti 14 7,bs6 15 .add 13 14,bti 16 0,btf 17 false 16,bs6 18 .lss 15 17,bti 19 18,bta 20 19 true 7,og 21 19 true (.bin .lss (.t 20) (ci 130)),btm 22 19 21,bti 23 22,bta 24 23 true 0,bta 25 23 true 6,bta 26 23 true 7,og 27 23 true (.bin .add (.t 25) (.t 26)),og 28 23 true (.Ch 1 (.t 24) (.t 27)),og 29 23 true (.load none (.t 28)),bta 30 23 true 0,bta 31 23 true 6,og 32 23 true (.Ch 1 (.t 30) (.t 31)),og 33 23 true (.load none (.t 32)),og 34 23 true (.bin .eql (.t 29) (.t 33)),btm 35 23 34]
def a6s:List (Nat×Nat):=[(0,1),(0,3),(1,3),(2,3),(0,4),(1,4),(2,4),(11,12),(11,13),(12,13),(11,14),(11,17),(12,17),(13,17),(14,17),(15,17),(16,17),(11,18),(12,18),(13,18),(14,18),(15,18),(16,18),(17,18),(11,19),(12,19),(13,19),(14,19),(15,19),(16,19),(11,20),(12,20),(13,20),(14,20),(15,20),(16,20)]
def bis:AA:= .region a6r a6s [0,3,4,5,6,7,35]
@[go_sem] theorem r_ak_6_u:Gu X K s bis a6s a6r [0,3,4,5,6,7,35]:=go_regionU' _ _ _ _
def bir:=rg [
bti 36 7,bs5 37 .add 36 1,btp 7 37] [0,3,4,5,6,7]
def baj:AA:=(.seq (.seq bis (.cond (.t 35) .skip (.exit 2))) (.block 3 bir))
def bov:=btb baj.eq_1
def a6p:=rg [
bti 38 7,bs5 39 .geq 38 3] [0,3,4,5,6,7,39]
def yl:=rg [
bti 40 5,oo 41 (.CD false (.t 40) [])] [0,3,4,5,6,7]
@[go_sem] def afy:Ops:=[
btg 42 3,bti 43 7,bs5 44 .sub 43 3,oo 45 (.Aj .u8 (.t 44)),bti 46 0,bti 47 6,btd 48 1 46 47,btg 49 48,oo 50 (.lit false 1 2 (.int .u8 0) [(0,(.t 45)),(1,(.t 49))]),oo 51 (.append 1 1 (.t 42) (.t 50)),bto 1 3 51]
def afz:List (Nat×Nat):=[(0,1),(0,2),(0,3),(0,4),(1,4),(2,4),(3,4),(0,5),(1,5),(2,5),(3,5),(4,5),(0,6),(1,6),(2,6),(3,6),(0,7),(1,7),(2,7),(3,7),(0,8)]
def yk:AA:= .region afy afz [0,3,4,5,6,7]
@[go_sem] theorem r_ak_11_u:Gu X K s yk afz afy [0,3,4,5,6,7]:=go_regionU' _ _ _ _
@[go_sem] def afw:Ops:=[
btg 52 4,bti 53 0,bti 54 6,bti 55 6,bti 56 7,bs6 57 .add 55 56,oo 58 (.slice 1 (.t 53) (some (.t 54)) (some (.t 57)) none),oo 59 (.append 1 1 (.t 52) (.t 58)),bto 1 4 59]
def afx:List (Nat×Nat):=[(0,1),(0,2),(1,2),(0,3),(1,3),(2,3),(0,4),(1,4),(2,4),(3,4),(0,5),(1,5),(2,5),(0,6)]
def yj:AA:= .region afw afx [0,3,4,5,6,7]
@[go_sem] theorem r_ak_12_u:Gu X K s yj afx afw [0,3,4,5,6,7]:=go_regionU' _ _ _ _
def yi:=rg [
bti 60 6,bti 61 7,bs6 62 .add 60 61,btp 6 62] [0,3,4,5,6]
def aai:AA:=(.seq (.seq biv (.cond (.t 12) .skip (.exit 0))) (.block 1 (.seq biu (.seq (.block 2 (.loop baj)) (.seq (.seq a6p (.cond (.t 39) (.seq yl yk) yj)) yi)))))
def bow:=btb aai.eq_1
def yh:=rg [
bti 63 5,oo 64 (.CD false (.t 63) [])] [3]
def yg:=rg [
btg 65 3,bs7 66 FX [(.t 65)],btp 2 66] [2]
def ZA:AA:=(.seq OT (.seq r_c8 (.seq OS (.seq (.seq OR (.block 0 (.loop aai))) (.seq yh (.seq yg .ret))))))
def jS:AN:=⟨1,[.t 2],ZA⟩
def a_ak:AJ:=⟨[51,59],zzz 10 [yl,.ret,.ret,bir,.ret,biu,biv,OR,OS,.ret,OT]++[(14,[2]),(13,[3]),(12,[0,3,4,5,6]),(9,[0,3,4,5,6,7]),(11,[0,3,4,5,6,7]),(8,[0,3,4,5,6,7,39]),(6,[0,3,4,5,6,7,35]),(1,[0,3,4])],[],[],[],[]⟩
def Kc:=rg [
oo 2 (.asg (.c .AL))] [0]
def Kb:=rg [
bti 6 0,btf 7 false 6,bs5 8 .add 7 7,bs5 9 .quo 8 8,oo 10 (.mkS 1 1 (.int .u8 0) (.t 9) (.t 9)),btp 3 10] [0,3]
def Ka:=rg [
bti 11 0,btf 12 false 11,oo 13 (.mv (ci 0))] [3,11,12,13]
def bea:=rg [
bs6 14 .lss 13 12] [3,11,12,13,14]
def bd9:=rg [
bti 15 13,btd 16 1 11 13,btg 17 16,btp 4 15,btp 5 17] [3,4,5,11,12,13]
def bd8:=rg [
bti 18 5] [3,4,11,12,13,18]
@[go_sem] def awh:Ops:=[
bti 19 3,bti 20 4,bs5 21 .quo 20 8,btd 22 1 19 21,btg 23 22,bti 24 4,bs5 25 .rem 24 8,oo 26 (.bin .shr (.c (.int .u8 128)) (.t 25)),bs6 27 .or 23 26,btd 28 1 19 21,bto 1 28 27]
def awi:List (Nat×Nat):=[(0,1),(0,2),(0,5),(1,5),(2,5),(3,5),(4,5),(0,6),(1,6),(2,6),(3,6),(4,6),(0,7),(1,7),(2,7),(3,7),(4,7)]
def bd7:AA:= .region awh awi [3,11,12,13]
@[go_sem] theorem r_cz_6_u:Gu X K s bd7 awi awh [3,11,12,13]:=go_regionU' _ _ _ _
def bd6:=rg [
bs5 29 .add 13 1,bti 13 29] [3,11,12,13]
def bnx:AA:=(.seq bea (.seq (.cond (.t 14) .skip (.exit 0)) (.seq (.block 1 (.seq bd9 (.seq bd8 (.cond (.t 18) bd7 .skip)))) bd6)))
def boy:=btb bnx.eq_1
def bd5:=rg [
bti 30 3,btp 2 30] [2]
def Ys:AA:=(.seq Kc (.seq Kb (.seq (.seq Ka (.block 0 (.loop bnx))) (.seq bd5 .ret))))
def gW:AN:=⟨1,[.t 2],Ys⟩
def a_cz:=zzy (zzz 7 [bd6,.ret,bd8,bd9,bea,Ka,Kb,Kc]++[(8,[2]),(6,[3,11,12,13])])
def JY:=rg [
oo 2 (.asg (.c .AL))] [0]
def JX:=rg [
bti 3 0,btf 4 false 3,bs5 5 .gtr 4 16384] [0,5]
@[go_sem] def TQ:Ops:=[
oo 2 (.asg (.c .AL))]
def cZ:=rg TQ [2]
def JW:=rg [
bti 6 0,bs7 7 RL [(.t 6)],bs7 8 Pu [(.t 7)],btp 2 8] [2]
def Vo:AA:=(.seq JY (.seq JX (.cond (.t 5) (.seq cZ .ret) (.seq JW .ret))))
def gC:AN:=⟨1,[.t 2],Vo⟩
def a_du:=zzy (zzz 3 [JW,.ret,JX,JY]++[(2,[2])])
def Np:=rg [
bs4 4 0] [0,1]
def Nn:=rg [
bti 6 0,btf 7 false 6,oo 8 (.mv (ci 0))] [0,1,7,8]
def bhm:=rg [
bs6 9 .lss 8 7] [0,1,7,8,9]
def bhl:=rg [
bti 10 8,btp 5 10] [0,1,5,7,8]
def bhk:=rg [
bti 11 1,bti 12 0,bti 13 5,btd 14 1 12 13,btg 15 14,oo 16 (.eqn false .bool (.t 11) (.t 15))] [0,1,5,7,8,16]
def bhj:=rg [
bti 17 5,btp 4 17] [4]
def bhi:=rg [
bs5 18 .add 8 1,bti 8 18] [0,1,7,8]
def bn9:AA:=(.seq bhm (.seq (.cond (.t 9) .skip (.exit 0)) (.seq (.block 1 (.seq bhl (.seq bhk (.cond (.t 16) (.seq bhj .ret) .skip)))) bhi)))
def boz:=btb bn9.eq_1
def bhh:=rg [
oo 4 (.asg (ci (-1)))] [4]
def Y7:AA:=(.seq Np (.seq (.seq Nn (.block 0 (.loop bn9))) (.seq bhh .ret)))
def jL:AN:=⟨2,[.t 4],Y7⟩
def a_aw:=zzy (zzz 6 [bhi,bhj,bhk,bhl,bhm,Nn,Np]++[(7,[4])])
def Kq:=rg [
bs3 4 false] [0,1]
def Ko:=rg [
bti 5 0,bti 6 1,bs7 7 Rk [(.t 5),(.t 6)],bs5 8 .geq 7 0,btp 4 8] [4]
def Vt:AA:=(.seq Kq (.seq Ko .ret))
def gY:AN:=⟨2,[.t 4],Vt⟩
def a_cx:=zzy (zzz 1 [Ko,Kq])
def Io:=rg [
oo 1 (.box 5 (.t 0)),bs3 2 false] [1]
def Im:=rg [
bs8 3 0 1,btg 4 3,bs7 5 RN [(.t 4),(.c (.bool false))],btp 2 5] [2]
def YX:AA:=(.seq Io (.seq Im .ret))
def fO:AN:=⟨1,[.t 2],YX⟩
def a_f6:=zzy (zzz 1 [Im,Io])
def J6:=rg [
oo 1 (.box 6 (.t 0)),bs4 2 0] [1]
def J5:=rg [
bs8 3 0 1,btg 4 3] [1,4]
def TV:=rg [
bs5 6 .eql 4 0,btp 5 6] [1,4,5]
def TU:=rg [
bs5 7 .eql 4 4,btp 5 7] [1,5]
@[go_sem] def TT:Ops:=[
bs4 2 7]
def dD:=rg TT [2]
def J4:=rg [
bs8 8 1 1,btg 9 8,bs5 10 .lss 9 64,bti 11 10,og 12 11 false (.AV 1 (.t 1)),og 13 11 false (.load none (.t 12)),og 14 11 false (.bin .gtr (.t 13) (ci 65536)),btn 15 11 14,bti 16 15,og 17 16 false (.AV 2 (.t 1)),og 18 16 false (.load none (.t 17)),og 19 16 false (.bin .lss (.t 18) (ci 1)),btn 20 16 19,bti 21 20,og 22 21 false (.AV 2 (.t 1)),og 23 21 false (.load none (.t 22)),og 24 21 false (.bin .gtr (.t 23) (ci 2)),btn 25 21 24,bti 26 25,og 27 26 false (.AV 3 (.t 1)),og 28 26 false (.load none (.t 27)),og 29 26 false (.bin .lss (.t 28) (ci 0)),btn 30 26 29,bti 31 30,og 32 31 false (.AV 3 (.t 1)),og 33 31 false (.load none (.t 32)),og 34 31 false (.bin .gtr (.t 33) (ci 100)),btn 35 31 34,bti 36 35,og 37 36 false (.AV 4 (.t 1)),og 38 36 false (.load none (.t 37)),og 39 36 false (.bin .lss (.t 38) (ci 1)),btn 40 36 39,bti 41 40,og 42 41 false (.AV 4 (.t 1)),og 43 41 false (.load none (.t 42)),og 44 41 false (.bin .gtr (.t 43) (ci 4096)),btn 45 41 44,bti 46 45,og 47 46 false (.AV 5 (.t 1)),og 48 46 false (.load none (.t 47)),og 49 46 false (.bin .lss (.t 48) (ci 0)),btn 50 46 49,bti 51 50,og 52 51 false (.AV 5 (.t 1)),og 53 51 false (.load none (.t 52)),og 54 51 false (.bin .gtr (.t 53) (ci 4096)),btn 55 51 54] [55]
@[go_sem] def TS:Ops:=[
bs4 2 1]
def dC:=rg TS [2]
def J3:=rg [
bs4 2 0] [2]
def Ym:AA:=(.seq J6 (.seq (.seq J5 (.block 0 (.seq (.seq TV (.cond (.t 5) .skip TU)) (.cond (.t 5) .skip (.seq dD .ret))))) (.seq J4 (.cond (.t 55) (.seq dC .ret) (.seq J3 .ret)))))
def gK:AN:=⟨1,[.t 2],Ym⟩
def a_dh:=zzy (bte [(7,J3),(5,J4),(1,J5),(0,J6)]++[(6,[2]),(2,[2]),(4,[1,5]),(3,[1,4,5])])
def O3:=rg [
oo 4 (.box 8 (.t 0)),oo 6 (.box 5 (.t 2)),oo 7 (.box 6 (.t 3)),oo 8 (.alloc [(.int .i64 0),(.int .i64 0)]),oo 9 (.asg (.c .AL)),bs4 10 0] [1,4,6,7,8]
def r_d9:=rg [
bth 17 6 7,bs7 18 Hq [(.t 17)],btp 11 18] [1,4,6,7,8,11]
def r_d7:=rg [
bti 19 11,bs5 20 .neq 19 0] [1,4,6,7,8,11,20]
@[go_sem] def Tw:Ops:=[
oo 21 (.build [(.int .i64 0),(.int .i64 0)] []),bti 22 11,bto 2 8 21,oo 9 (.asg (.c .AL)),btp 10 22]
def dY:=rg Tw [8,9,10]
def O2:=rg [
bti 23 1,bth 24 6 7,oo 25 (.build [(.int .i64 0),(.int .i64 0),(.int .i64 0),(.int .i64 0),(.int .i64 0),(.int .i64 0),(.int .i64 0),(.int .i64 0),(.int .i64 0),.AL,(.int .i64 0)] [(0,1,(.t 23)),(1,6,(.t 24))]),oo 26 (.box 11 (.t 25)),btp 12 26] [4,6,7,8,12]
def O1:=rg [
bth 27 5 6,bs7 28 Q3 [(.t 27)]] [4,6,7,8,12,28]
def O0:=rg [
bti 29 12,bs8 30 0 6,btg 31 30,bs7 32 Po [(.t 31)],bs7 33 FZ [(.t 29),(ci 0),(.t 32)]] [4,6,7,8,12]
def Oz:=rg [
bs3 13 false] [4,6,7,8,12,13]
def Oy:=rg [
bs8 34 0 4,btg 35 34] [4,6,7,8,12,13,35]
def Ox:=rg [
bs5 37 .eql 35 12,btp 36 37] [4,6,7,8,12,13,35,36]
def bjp:=rg [
bs5 39 .eql 35 0,btp 38 39] [4,6,7,8,12,13,35,38]
def bjo:=rg [
bs5 41 .eql 35 1,btp 40 41] [4,6,7,8,12,13,35,40]
def bjn:=rg [
bs5 42 .eql 35 13,btp 40 42] [4,6,7,8,12,13,35,40]
def bjm:=rg [
bs5 44 .eql 35 9,btp 43 44] [4,6,7,8,12,13,35,43]
def bjl:=rg [
bs5 46 .eql 35 14,btp 45 46] [4,6,7,8,12,13,35,45]
def bjk:=rg [
bs5 48 .eql 35 7,btp 47 48] [6,7,8,12,13,35,47]
def bjj:=rg [
bs5 49 .eql 35 16,btp 47 49] [6,7,8,12,13,35,47]
def bji:=rg [
bs5 50 .eql 35 17,btp 47 50] [6,7,8,12,13,35,47]
def bjh:=rg [
bs5 52 .eql 35 8,btp 51 52] [6,8,12,13,35,51]
def bjg:=rg [
bs5 54 .eql 35 10,btp 53 54] [6,8,12,35,53]
def bjf:=rg [
bs5 55 .eql 35 11,btp 53 55] [6,8,12,53]
def bje:=rg [
bs8 56 1 6,btg 57 56,btf 58 false 57,oo 59 (.mkS 1 1 (.bool false) (.t 58) (.t 58)),btp 14 59] [6,8,12,14]
def bjd:=rg [
bs8 60 1 6,btg 61 60,btf 62 false 61,oo 63 (.mv (ci 0))] [8,12,14,61,62,63]
def ao2:=rg [
bs6 64 .lss 63 62] [8,12,14,61,62,63,64]
def ao1:=rg [
bti 65 63,btd 66 1 61 63,btg 67 66,btp 15 65,btp 16 67] [8,12,14,15,16,61,62,63]
def ao0:=rg [
bti 68 14,bti 69 15,bti 70 16,bs5 71 .neq 70 0,btd 72 1 68 69,bto 1 72 71] [8,12,14,61,62,63]
def aoz:=rg [
bs5 73 .add 63 1,bti 63 73] [8,12,14,61,62,63]
def art:AA:=(.seq ao2 (.seq (.cond (.t 64) .skip (.exit 10)) (.seq (.block 11 (.seq ao1 ao0)) aoz)))
def bo0:=btb art.eq_1
def ym:=rg [
bti 74 12,bti 75 14,bs7 76 Po [(.t 75)],bs7 77 FZ [(.t 74),(ci 1),(.t 76)]] [8,12]
def aoy:=rg [
bti 78 12,bs8 79 1 6,btg 80 79,bs7 81 RH [(.t 80)],bs7 82 Pu [(.t 81)],bs7 83 FZ [(.t 78),(ci 1),(.t 82)]] [8,12]
def aox:=rg [
bti 84 12,bs8 85 1 6,btg 86 85,bs7 87 Re [(.t 86),(.c (.fn G9))],bs7 88 FY [(.t 84),(ci 1),(.t 87),(.c (.bool true))]] [6,8,12]
def aow:=rg [
bti 89 12,bs8 90 2 6,btg 91 90,bs7 92 RQ [(.t 91),(.c (.fn GZ))],bs7 93 FY [(.t 89),(ci 5),(.t 92),(.c (.bool false))]] [8,12]
def aov:=rg [
bti 94 12,bs8 95 1 6,btg 96 95,bs7 97 RX [(.t 96)],bs7 98 FZ [(.t 94),(ci 1),(.t 97)]] [4,6,8,12]
def aou:=rg [
bti 99 12,bs8 100 5 4,btg 101 100,oo 102 (.lit false 1 1 (.int .i64 0) [(0,(.t 101))]),bs8 103 1 6,btg 104 103,btf 105 false 104,bs7 106 Rp [(.t 102),(.t 105)],bs7 107 FY [(.t 99),(ci 5),(.t 106),(.c (.bool true))]] [8,12]
def aot:=rg [
bs8 108 3 6,btg 109 108,bs8 110 3 7,btg 111 110,bs7 112 Q6 [(.t 109),(.t 111)],btp 13 112] [6,8,12,13]
def aos:=rg [
bti 113 12,bs8 114 3 6,btg 115 114,bti 116 13,bs7 117 UU [(.t 113),(.t 115),(.t 116)]] [8,12]
def aor:=rg [
bti 118 12,bs8 119 4 6,btg 120 119,bs7 121 FY [(.t 118),(ci 2),(.t 120),(.c (.bool false))]] [8,12]
def aoq:=rg [
bti 122 12,bs8 123 1 6,btg 124 123,bs7 125 FY [(.t 122),(ci 1),(.t 124),(.c (.bool true))]] [8,12]
def aop:=rg [
bti 126 12,btj 127 126,bs8 128 10 127,btg 129 128,bs5 130 .neq 129 0] [8,12,130]
@[go_sem] def agx:Ops:=[
oo 131 (.build [(.int .i64 0),(.int .i64 0)] []),bti 132 12,btj 133 132,bs8 134 10 133,btg 135 134,bto 2 8 131,oo 9 (.asg (.c .AL)),btp 10 135]
def agy:List (Nat×Nat):=[(0,1),(0,2),(0,3),(0,4),(1,5),(2,5),(3,5),(4,5),(1,6),(2,6),(3,6),(4,6)]
def aoo:AA:= .region agx agy [8,9,10]
@[go_sem] theorem r_ag_39_u:Gu X K s aoo agy agx [8,9,10]:=go_regionU' _ _ _ _
@[go_sem] def agv:Ops:=[
bti 136 12,btj 137 136,bs8 138 7 137,bth 139 2 138,bti 140 12,btj 141 140,bs8 142 9 141,btg 143 142,bs7 144 n_gj [(.t 143)],bto 2 8 139,btp 9 144,bs4 10 0]
def agw:List (Nat×Nat):=[(0,4),(1,4),(2,4),(3,4),(0,5),(1,5),(2,5),(3,5),(0,6),(1,6),(2,6),(3,6),(0,7),(1,7),(2,7),(3,7),(0,8),(1,8),(2,8),(3,8)]
def aon:AA:= .region agv agw [8,9,10]
@[go_sem] theorem r_ag_40_u:Gu X K s aon agw agv [8,9,10]:=go_regionU' _ _ _ _
def IE:AA:=(.seq O3 (.seq (.seq r_d9 (.seq r_d7 (.cond (.t 20) (.seq dY .ret) .skip))) (.seq O2 (.seq (.seq O1 (.cond (.t 28) O0 .skip)) (.seq Oz (.seq (.seq Oy (.block 0 (.seq (.block 9 (.seq (.block 8 (.seq (.block 7 (.seq (.block 6 (.seq (.block 5 (.seq (.block 4 (.seq (.block 3 (.seq (.block 2 (.seq (.block 1 (.seq (.seq (.seq Ox (.cond (.t 36) (.exit 1) .skip)) (.seq (.seq bjp (.cond (.t 38) (.exit 2) .skip)) (.seq (.seq (.seq bjo (.cond (.t 40) .skip bjn)) (.cond (.t 40) (.exit 3) .skip)) (.seq (.seq bjm (.cond (.t 43) (.exit 4) .skip)) (.seq (.seq bjl (.cond (.t 45) (.exit 5) .skip)) (.seq (.seq (.seq bjk (.cond (.t 47) .skip (.seq bjj (.cond (.t 47) .skip bji)))) (.cond (.t 47) (.exit 6) .skip)) (.seq (.seq bjh (.cond (.t 51) (.exit 7) .skip)) (.seq (.seq bjg (.cond (.t 53) .skip bjf)) (.cond (.t 53) (.exit 8) .skip))))))))) (.exit 9))) (.exit 0))) (.seq (.seq bje (.seq (.seq bjd (.block 10 (.loop art))) (.seq (.BV [14]) ym))) (.exit 0)))) (.seq aoy (.exit 0)))) (.seq (.seq aox aow) (.exit 0)))) (.seq (.seq aov aou) (.exit 0)))) aot)) (.seq aos (.exit 0)))) (.seq aor (.exit 0)))) (.seq aoq (.exit 0))))) (.seq aop (.cond (.t 130) (.seq aoo .ret) (.seq aon .ret)))))))))
def jW:AN:=⟨4,[.cell 8 (some 2),.t 9,.t 10],IE⟩
def a_ag:AJ:=⟨[],zzz 36 [aor,aos,.ret,.ret,.ret,.ret,.ret,.ret,ym,.ret,aoz,ao0,ao1,ao2,bjd,bje,bjf,bjg,bjh,bji,bjj,bjk,bjl,bjm,bjn,bjo,bjp,Ox,Oy,Oz,O0,O1,O2,.ret,.ret,.ret,O3]++[(39,[8,9,10]),(38,[8,9,10]),(37,[8,12,130]),(34,[8,12]),(33,[6,8,12,13]),(32,[8,12]),(31,[4,6,8,12]),(30,[8,12]),(29,[6,8,12]),(27,[8,12]),(3,[8,9,10]),(2,[1,4,6,7,8,11,20]),(1,[1,4,6,7,8,11])],[(27,[14])],[],[],[]⟩
def I3:=rg [
oo 1 (.box 5 (.t 0)),oo 2 (.alloc [.AL,.AL,.AL,.AL,.AL])] [1,2]
def Iz:=rg [
bs8 3 0 1,btg 4 3,bs8 5 1 1,btg 6 5,bs8 7 2 1,btg 8 7,bs8 9 3 1,btg 10 9,bs8 11 4 1,btg 12 11,oo 13 (.build [.AL,.AL,.AL,.AL,.AL] [(0,1,(.t 4)),(1,1,(.t 6)),(2,1,(.t 8)),(3,1,(.t 10)),(4,1,(.t 12))]),bto 5 2 13] [2]
def Ya:AA:=(.seq I3 (.seq Iz .ret))
def fS:AN:=⟨1,[.cell 2 (some 5)],Ya⟩
def a_eh:=zzy (zzz 1 [Iz,I3])
def Ld:=rg [
oo 2 (.asg (.c .AL))] [0]
def Lc:=rg [
bti 3 0,oo 4 (.isNil false (.t 3))] [0,4]
@[go_sem] def Tb:Ops:=[
oo 2 (.asg (.c .AL))]
def dG:=rg Tb [2]
def Lb:=rg [
oo 5 (.lit true 1 0 (.str []) []),bti 6 0,oo 7 (.append 1 16 (.t 5) (.t 6)),btp 2 7] [2]
def Yx:AA:=(.seq Ld (.seq Lc (.cond (.t 4) (.seq dG .ret) (.seq Lb .ret))))
def iJ:AN:=⟨1,[.t 2],Yx⟩
def a_cc:AJ:=⟨[5],zzz 3 [Lb,.ret,Lc,Ld]++[(2,[2])],[],[],[],[]⟩
def M7:=rg [
oo 5 (.box 6 (.t 1)),oo 8 (.asg (.c .AL))] [0,2,3,5]
def M6:=rg [
bti 13 0,btf 14 false 13,btp 9 14] [0,2,3,5,9]
@[go_sem] def a28:Ops:=[
bti 15 0,bs8 16 0 5,btg 17 16,bs8 18 1 5,btg 19 18,bs7 20 RV [(.t 19)],bs7 21 n_gp [(.t 20)],bs8 22 3 5,btg 23 22,bs8 24 4 5,btg 25 24,bs8 26 5 5,btg 27 26,bti 28 2,bti 29 3,oo 30 (.build [(.int .i64 0),.AL,.AL,(.int .i64 0),(.int .i64 0),(.int .i64 0),(.int .i64 0),(.int .i64 0)] [(0,1,(.t 17)),(1,1,(.c .AL)),(2,1,(.t 21)),(3,1,(.t 23)),(4,1,(.t 25)),(5,1,(.t 27)),(6,1,(.t 28)),(7,1,(.t 29))]),oo 31 (.lit false 8 1 (.agg [(.int .i64 0),(.sl []),(.sl []),(.int .i64 0),(.int .i64 0),(.int .i64 0),(.int .i64 0),(.int .i64 0)]) [(0,(.t 30))]),oo 32 (.append 8 96 (.t 15) (.t 31)),btp 0 32]
def a29:List (Nat×Nat):=[(0,1),(0,2),(0,3),(1,3),(2,3),(0,4),(1,4),(2,4),(0,5),(1,5),(2,5),(0,6),(1,6),(2,6),(0,7),(1,7),(2,7),(3,7),(4,7),(5,7),(6,7),(0,8),(1,8),(2,8),(3,8),(4,8),(5,8),(6,8),(0,9),(1,9),(2,9),(3,9),(4,9),(5,9),(6,9),(7,9),(8,9),(0,10),(1,10),(2,10),(3,10),(4,10),(5,10),(6,10),(7,10),(8,10),(0,11),(1,11),(2,11),(3,11),(4,11),(5,11),(6,11),(7,11),(8,11),(9,11),(10,11),(0,12),(1,12),(2,12),(3,12),(4,12),(5,12),(6,12),(7,12),(8,12),(9,12),(10,12),(0,13),(1,13),(2,13),(3,13),(4,13),(5,13),(6,13),(7,13),(8,13),(9,13),(10,13),(11,13),(12,13),(0,14),(1,14),(2,14),(3,14),(4,14),(5,14),(6,14),(7,14),(8,14),(9,14),(10,14),(11,14),(12,14),(13,14),(0,15),(0,16)]
def Tk:AA:= .region a28 a29 [0,3,5,9]
@[go_sem] theorem r_ba_2_u:Gu X K s Tk a29 a28 [0,3,5,9]:=go_regionU' _ _ _ _
def M5:=rg [
oo 10 (.asg (.c .AL))] [0,3,5,9,10]
def M4:=rg [
bs8 33 2 5,btg 34 33,btf 35 false 34,oo 36 (.mv (ci 0))] [0,3,9,10,34,35,36]
def bgp:=rg [
bs6 37 .lss 36 35] [0,3,9,10,34,35,36,37]
def bgo:=rg [
btd 38 6 34 36,bth 39 6 38,oo 12 (.alloc [(.int .i64 0),.AL,.AL,(.int .i64 0),(.int .i64 0),(.int .i64 0)]),bto 6 12 39] [0,3,9,10,12,34,35,36]
def bgn:=rg [
bti 40 10,bti 41 0,btf 42 false 41,oo 43 (.lit false 1 1 (.int .i64 0) [(0,(.t 42))]),oo 44 (.append 1 8 (.t 40) (.t 43)),btp 10 44] [0,3,9,10,12,34,35,36]
def bgm:=rg [
bti 45 0,bth 46 6 12,bti 47 9,bti 48 3,bs5 49 .add 48 1,oo 50 (.Cr true Hu [(.t 45),(.t 46),(.t 47),(.t 49)] 0),btp 0 50] [0,3,9,10,34,35,36]
def bgl:=rg [
bs5 51 .add 36 1,bti 36 51] [0,3,9,10,34,35,36]
def aaf:AA:=(.seq bgp (.seq (.cond (.t 37) .skip (.exit 0)) (.seq (.block 1 (.seq (.seq (.free 12) bgo) (.seq bgn bgm))) bgl)))
def bo1:=btb aaf.eq_1
def se:=rg [
bti 52 0,bti 53 9,bti 54 10,bs7 55 n_gy [(.t 54)],btd 56 8 52 53,bs8 57 1 56,bto 1 57 55] [0]
def sd:=rg [
bti 58 0,btp 8 58] [8]
def SE:AA:=(.seq M7 (.seq M6 (.seq Tk (.seq M5 (.seq (.seq M4 (.block 0 (.loop aaf))) (.seq (.seq (.BV [10]) se) (.seq sd .ret)))))))
def jD:AN:=⟨4,[.t 8],SE⟩
def a_ba:AJ:=⟨[32,44,50],zzz 9 [bgl,bgm,bgn,bgo,bgp,M4,M5,.ret,M6,M7]++[(11,[8]),(10,[0]),(2,[0,3,5,9])],[(10,[10])],[(6,[12])],[(50,0)],[]⟩
def OL:=rg [
oo 1 (.box 6 (.t 0)),bs3 2 false] [1]
def OJ:=rg [
bs4 3 0,bs4 4 0,bs4 5 0,bs3 6 false] [1,3,4,5,6]
def OI:=rg [
bs8 7 0 1,btg 8 7] [1,3,4,5,6,8]
def OH:=rg [
bs5 10 .eql 8 11,btp 9 10] [1,3,4,5,6,8,9]
def OG:=rg [
bs5 12 .eql 8 10,btp 11 12] [1,3,4,5,6,8,11]
def OE:=rg [
bs5 14 .eql 8 12,btp 13 14] [1,3,4,5,6,8,13]
def OD:=rg [
bs5 16 .eql 8 13,btp 15 16] [1,3,4,5,6,8,15]
def OC:=rg [
bs5 18 .eql 8 16,btp 17 18] [1,3,4,5,6,8,17]
def OB:=rg [
bs5 19 .eql 8 17,btp 17 19] [1,3,4,5,6,8,17]
def OA:=rg [
bs5 21 .eql 8 14,btp 20 21] [1,3,4,5,6,20]
def bie:=rg [
bti 22 3,bs5 23 .add 22 1,btp 3 23] [1,3,4,5,6]
def bid:=rg [
bti 24 3,bs5 25 .add 24 1,btp 3 25] [1,3,4,5,6]
@[go_sem] def afo:Ops:=[
bs8 26 1 1,btg 27 26,btf 28 false 27,bs8 29 1 1,btg 30 29,btf 31 false 30,btp 3 28,btp 4 31]
def afp:List (Nat×Nat):=[(0,3),(1,3),(2,3),(0,4),(1,4),(2,4),(0,5),(1,5),(2,5),(3,6),(4,6),(5,6)]
def bic:AA:= .region afo afp [1,3,4,5,6]
@[go_sem] theorem r_ap_12_u:Gu X K s bic afp afo [1,3,4,5,6]:=go_regionU' _ _ _ _
def bib:=rg [
bs8 32 2 1,btg 33 32,btf 34 false 33,btp 3 34] [1,3,4,5,6]
def bia:=rg [
bti 35 3,bs5 36 .lss 35 1,bti 37 36,bta 38 37 false 3,og 39 37 false (.bin .gtr (.t 38) (ci 255)),btn 40 37 39] [1,3,4,5,6,40]
def bh9:=rg [
bs3 2 false] [2]
def bh8:=rg [
bs8 41 3 1,btg 42 41,btp 5 42] [1,3,4,5,6]
def bh7:=rg [
bti 43 5,bs5 44 .lss 43 1,bti 45 44,bta 46 45 false 5,og 47 45 false (.bin .gtr (.t 46) (ci 4096)),btn 48 45 47] [1,3,4,5,6,48]
def bh6:=rg [
bs3 2 false] [2]
def bh5:=rg [
bs3 6 true] [1,3,4,5,6]
def bh4:=rg [
bs8 49 2 1,btg 50 49,btf 51 false 50,bti 52 3,bs6 53 .neq 51 52,bti 54 53,og 55 54 false (.AV 1 (.t 1)),og 56 54 false (.load none (.t 55)),og 57 54 false (.len false (.t 56)),bta 58 54 false 4,og 59 54 false (.bin .neq (.t 57) (.t 58)),btn 60 54 59,bti 61 60,og 62 61 false (.AV 3 (.t 1)),og 63 61 false (.load none (.t 62)),bta 64 61 false 5,og 65 61 false (.bin .neq (.t 63) (.t 64)),btn 66 61 65,bti 67 66,og 68 67 false (.AV 1 (.t 1)),og 69 67 false (.load none (.t 68)),og 70 67 false (.call false Qx [(.t 69)]),og 71 67 false (.un .not (.t 70)),btn 72 67 71] [1,6,72]
def bh3:=rg [
bs3 2 false] [2]
def bh2:=rg [
bti 73 6] [1,73]
def bh1:=rg [
bs8 74 4 1,btg 75 74,bs5 76 .geq 75 1,bti 77 76,og 78 77 true (.AV 4 (.t 1)),og 79 77 true (.load none (.t 78)),og 80 77 true (.bin .leq (.t 79) (ci 18)),btm 81 77 80,bti 82 81,og 83 82 true (.AV 5 (.t 1)),og 84 82 true (.load none (.t 83)),og 85 82 true (.bin .geq (.t 84) (ci 0)),btm 86 82 85,bti 87 86,og 88 87 true (.AV 5 (.t 1)),og 89 87 true (.load none (.t 88)),og 90 87 true (.AV 4 (.t 1)),og 91 87 true (.load none (.t 90)),og 92 87 true (.bin .leq (.t 89) (.t 91)),btm 93 87 92,btp 2 93] [2]
def bh0:=rg [
bs8 94 4 1,btg 95 94,bs5 96 .eql 95 0,bti 97 96,og 98 97 true (.AV 5 (.t 1)),og 99 97 true (.load none (.t 98)),og 100 97 true (.bin .eql (.t 99) (ci 0)),btm 101 97 100,btp 2 101] [2]
def D3:AA:=(.seq OL (.seq OJ (.seq (.seq OI (.block 0 (.seq (.block 6 (.seq (.block 5 (.seq (.block 4 (.seq (.block 3 (.seq (.block 2 (.seq (.block 1 (.seq (.seq (.seq OH (.cond (.t 9) (.exit 1) .skip)) (.seq (.seq OG (.cond (.t 11) (.exit 2) .skip)) (.seq (.seq OE (.cond (.t 13) (.exit 3) .skip)) (.seq (.seq OD (.cond (.t 15) (.exit 4) .skip)) (.seq (.seq (.seq OC (.cond (.t 17) .skip OB)) (.cond (.t 17) (.exit 5) .skip)) (.seq OA (.cond (.t 20) (.exit 6) .skip))))))) (.exit 0))) bie)) (.seq bid (.exit 0)))) (.seq bic (.exit 0)))) (.seq (.seq bib (.seq bia (.cond (.t 40) (.seq bh9 .ret) .skip))) (.exit 0)))) (.seq (.seq bh8 (.seq bh7 (.cond (.t 48) (.seq bh6 .ret) .skip))) (.exit 0)))) (.seq bh5 (.exit 0))))) (.seq bh4 (.cond (.t 72) (.seq bh3 .ret) (.seq bh2 (.cond (.t 73) (.seq bh1 .ret) (.seq bh0 .ret))))))))
def jP:AN:=⟨1,[.t 2],D3⟩
def a_ap:=zzy (zzz 24 [bh0,bh1,bh2,bh3,bh4,bh5,bh6,bh7,bh8,bh9,bia,bib,.ret,bid,bie,OA,OB,OC,OD,OE,OG,OH,OI,OJ,OL]++[(12,[1,3,4,5,6])])
def MI:=rg [
oo 3 (.box 6 (.t 0)),bs4 6 0] [1,2,3]
def MH:=rg [
bti 11 1,bs5 12 .gtr 11 16,bti 13 12,bta 14 13 false 2,og 15 13 false (.FC (.t 14)),og 16 13 false (.load none (.t 15)),og 17 13 false (.bin .geq (.t 16) (ci 100)),btn 18 13 17,btp 10 18] [1,2,3,10]
def MG:=rg [
bs4 6 4] [6]
def MF:=rg [
bs8 20 0 3,btg 21 20,bs5 22 .eql 21 5,bti 23 22,og 24 23 false (.AV 0 (.t 3)),og 25 23 false (.load none (.t 24)),og 26 23 false (.bin .eql (.t 25) (ci 6)),btn 27 23 26,btp 19 27] [1,2,3,19]
def ME:=rg [
bs4 6 5] [6]
def MD:=rg [
bs8 29 0 3,btg 30 29,bs5 31 .lss 30 0,bti 32 31,og 33 32 false (.AV 0 (.t 3)),og 34 32 false (.load none (.t 33)),og 35 32 false (.bin .gtr (.t 34) (ci 17)),btn 36 32 35,bti 37 36,og 38 37 false (.load (some 6) (.t 3)),og 39 37 false (.call false Rm [(.t 38)]),og 40 37 false (.un .not (.t 39)),btn 41 37 40,btp 28 41] [1,2,3,28]
def MC:=rg [
bs4 6 1] [6]
def MB:=rg [
bti 42 2,btj 43 42,btg 44 43,bs5 45 .add 44 1,btj 46 42,bto 1 46 45] [1,2,3]
def MA:=rg [
bs8 47 2 3,btg 48 47,btf 49 false 48,oo 50 (.mv (ci 0))] [1,2,48,49,50]
def bfj:=rg [
bs6 51 .lss 50 49] [1,2,48,49,50,51]
def ami:=rg [
btd 52 6 48 50,bth 53 6 52,oo 8 (.alloc [(.int .i64 0),.AL,.AL,(.int .i64 0),(.int .i64 0),(.int .i64 0)]),bto 6 8 53] [1,2,8,48,49,50]
def amh:=rg [
bth 54 6 8,bti 55 1,bs5 56 .add 55 1,bti 57 2,bs7 58 Hs [(.t 54),(.t 56),(.t 57)],btp 9 58] [1,2,9,48,49,50]
def amg:=rg [
bti 59 9,bs5 60 .neq 59 0] [1,2,9,48,49,50,60]
def amf:=rg [
bti 61 9,btp 6 61] [6]
def ame:=rg [
bs5 62 .add 50 1,bti 50 62] [1,2,48,49,50]
def ard:AA:=(.seq bfj (.seq (.cond (.t 51) .skip (.exit 1)) (.seq (.block 2 (.seq (.seq (.free 8) ami) (.seq amh (.seq amg (.cond (.t 60) (.seq amf .ret) .skip))))) ame)))
def bo2:=btb ard.eq_1
def amd:=rg [
bs4 6 0] [6]
def Gd:AA:=(.seq MI (.seq (.block 0 (.seq MH (.cond (.t 10) (.seq MG .ret) (.seq MF (.cond (.t 19) (.seq ME .ret) (.seq MD (.cond (.t 28) (.seq MC .ret) .skip))))))) (.seq MB (.seq (.seq MA (.block 1 (.loop ard))) (.seq amd .ret)))))
def iS:AN:=⟨3,[.t 6],Gd⟩
def a_bq:AJ:=⟨[],zzz 14 [ame,amf,amg,amh,ami,bfj,MA,MB,MC,MD,ME,MF,MG,MH,MI]++[(15,[6])],[],[(10,[8])],[],[]⟩
def Ir:=rg [
oo 1 (.box 6 (.t 0)),bs4 2 0] [1]
def Iq:=rg [
oo 3 (.alloc [(.int .i64 0)]),ow (.store 1 (.t 3) (ci 0))] [1,3]
def Ip:=rg [
bth 4 6 1,bs7 5 Hs [(.t 4),(ci 1),(.t 3)],btp 2 5] [2]
def YY:AA:=(.seq Ir (.seq Iq (.seq Ip .ret)))
def fP:AN:=⟨1,[.t 2],YY⟩
def a_ew:=zzy (zzz 2 [Ip,Iq,Ir])
def Jg:=rg [
oo 1 (.box 6 (.t 0)),oo 2 (.asg (.c .AL))] [1]
def Jf:=rg [
bth 3 6 1,bs7 4 Q4 [(.t 3)],bs5 5 .neq 4 0] [1,5]
@[go_sem] def TR:Ops:=[
oo 2 (.asg (.c .AL))]
def dA:=rg TR [2]
def Je:=rg [
bth 6 6 1,oo 7 (.Cr false Hu [(.c .AL),(.t 6),(ci (-1)),(ci 1)] 0),bs7 8 n_gk [(.t 7)],btp 2 8] [2]
def Yh:AA:=(.seq Jg (.seq Jf (.cond (.t 5) (.seq dA .ret) (.seq Je .ret))))
def gF:AN:=⟨1,[.t 2],Yh⟩
def a_dq:AJ:=⟨[],zzz 3 [Je,.ret,Jf,Jg]++[(2,[2])],[],[],[(7,0)],[]⟩
def PS:=rg [
oo 3 (.box 6 (.t 0)),oo 5 (.box 6 (.t 2)),bs3 6 false] [1,3,5]
def PR:=rg [
bs7 18 Xd [],btl 19 18] [1,3,5,19]
@[go_sem] def T3:Ops:=[
bs3 6 false]
def eA:=rg T3 [6]
def PQ:=rg [
bth 20 6 3,bti 21 1,bs7 22 Rb [(.t 20),(.t 21)],btl 23 22,bti 24 23,og 25 24 false (.load (some 6) (.t 5)),og 26 24 false (.call false Q5 [(.t 25)]),og 27 24 false (.call false Rf [(.t 26)]),og 28 24 false (.bin .neq (.t 27) (ci 0)),btn 29 24 28] [1,3,5,29]
def PO:=rg [
bs3 6 true] [6]
def PN:=rg [
bth 31 6 3,bti 32 1,bs7 33 Hl [(.t 31),(.t 32)],bti 30 33,btq 34 30 0,btq 35 30 1,btp 7 34,btp 8 35] [3,5,7,8]
def PM:=rg [
bti 36 8,bs5 37 .neq 36 0] [3,5,7,37]
def PL:=rg [
bs3 6 true] [6]
def PK:=rg [
bth 38 6 3,bs7 39 RC [(.t 38)],btp 9 39] [5,7,9]
def PJ:=rg [
bti 40 9,btf 41 false 40,bti 42 7,btf 43 false 42,bs6 44 .neq 41 43] [5,7,9,44]
@[go_sem] def bkc:Ops:=[
bs3 6 false]
def XX:=rg bkc [6]
def bkb:=rg [
bs4 10 0] [5,7,9,10]
def apt:=rg [
bti 45 10,bti 46 9,btf 47 false 46,bs6 48 .lss 45 47] [5,7,9,10,48]
@[go_sem] def ai5:Ops:=[
bti 52 9,bti 53 10,btd 54 8 52 53,bth 55 8 54,bti 56 10,bti 57 7,bti 58 10,btd 59 5 57 58,bth 60 5 59,bs7 61 Pm [(.t 60)],bth 62 6 5,bs7 63 Pw [(.t 55),(.t 56),(.t 61),(.t 62)],bti 51 63,btq 64 51 0,btq 65 51 1,btq 66 51 2,oo 11 (.alloc [(.int .i64 0),(.int .i64 0)]),bto 2 11 64,btp 12 65,btp 13 66]
def ai6:List (Nat×Nat):=[(0,1),(0,4),(1,4),(2,4),(3,4),(0,5),(1,5),(2,5),(3,5),(4,5),(0,6),(1,6),(2,6),(3,6),(4,6),(5,6),(0,7),(1,7),(2,7),(3,7),(4,7),(0,8),(1,8),(2,8),(3,8),(4,8),(0,9),(1,9),(2,9),(3,9),(4,9),(0,10),(1,10),(2,10),(3,10),(4,10),(5,10),(6,10),(7,10),(8,10),(9,10),(13,14),(13,15),(14,15),(0,16),(1,16),(2,16),(3,16),(4,16),(5,16),(6,16),(7,16),(8,16),(9,16),(10,16),(11,16),(12,16),(13,16),(14,16),(15,16),(14,17),(15,17),(15,18)]
def aps:AA:= .region ai5 ai6 [5,7,9,10,11,12]
@[go_sem] theorem r_ac_13_u:Gu X K s aps ai6 ai5 [5,7,9,10,11,12]:=go_regionU' _ _ _ _
@[go_sem] def ai3:Ops:=[
bti 68 9,bti 69 10,btd 70 8 68 69,bth 71 8 70,bti 72 10,bti 73 7,bti 74 10,btd 75 5 73 74,bth 76 5 75,bs7 77 Pm [(.t 76)],bth 78 6 5,bs7 79 Pw [(.t 71),(.t 72),(.t 77),(.t 78)],bti 67 79,btq 80 67 0,btq 81 67 1,btq 82 67 2,oo 14 (.alloc [(.int .i64 0),(.int .i64 0)]),bto 2 14 80,btp 15 81,btp 16 82]
def ai4:List (Nat×Nat):=[(0,1),(0,4),(1,4),(2,4),(3,4),(0,5),(1,5),(2,5),(3,5),(4,5),(0,6),(1,6),(2,6),(3,6),(4,6),(5,6),(0,7),(1,7),(2,7),(3,7),(4,7),(0,8),(1,8),(2,8),(3,8),(4,8),(0,9),(1,9),(2,9),(3,9),(4,9),(0,10),(1,10),(2,10),(3,10),(4,10),(5,10),(6,10),(7,10),(8,10),(9,10),(13,14),(13,15),(14,15),(0,16),(1,16),(2,16),(3,16),(4,16),(5,16),(6,16),(7,16),(8,16),(9,16),(10,16),(11,16),(12,16),(13,16),(14,16),(15,16),(14,17),(15,17),(15,18)]
def apr:AA:= .region ai3 ai4 [5,7,9,10,11,12,14,15]
@[go_sem] theorem r_ac_14_u:Gu X K s apr ai4 ai3 [5,7,9,10,11,12,14,15]:=go_regionU' _ _ _ _
def apq:=rg [
bth 83 2 11,bth 84 2 14,oo 85 (.eqn true (.agg [0,0]) (.t 83) (.t 84)),bti 86 85,bta 87 86 false 12,og 88 86 false (.len false (.t 87)),bta 89 86 false 15,og 90 86 false (.len false (.t 89)),og 91 86 false (.bin .neq (.t 88) (.t 90)),btn 92 86 91] [5,7,9,10,12,15,92]
@[go_sem] def bj9:Ops:=[
bs3 6 false]
def bka:=rg bj9 [6]
def app:=rg [
bs4 17 0] [5,7,9,10,12,15,17]
def apo:=rg [
bti 93 17,bti 94 12,btf 95 false 94,bs6 96 .lss 93 95] [5,7,9,10,12,15,17,96]
@[go_sem] def aiy:Ops:=[
bti 99 12,bti 100 17,btd 101 3 99 100,bs8 102 0 101,btg 103 102,bti 104 15,bti 105 17,btd 106 3 104 105,bs8 107 0 106,btg 108 107,bs6 109 .neq 103 108,bti 110 109,bta 111 110 false 12,bta 112 110 false 17,og 113 110 false (.Ch 3 (.t 111) (.t 112)),og 114 110 false (.AV 2 (.t 113)),og 115 110 false (.load none (.t 114)),og 116 110 false (.b2s (.t 115)),bta 117 110 false 15,bta 118 110 false 17,og 119 110 false (.Ch 3 (.t 117) (.t 118)),og 120 110 false (.AV 2 (.t 119)),og 121 110 false (.load none (.t 120)),og 122 110 false (.b2s (.t 121)),og 123 110 false (.bin .neq (.t 116) (.t 122)),btn 124 110 123]
def aiz:List (Nat×Nat):=[(0,1),(0,5),(1,5),(2,5),(3,5),(4,5),(0,6),(1,6),(2,6),(3,6),(4,6),(5,6),(0,7),(1,7),(2,7),(3,7),(4,7),(0,8),(1,8),(2,8),(3,8),(4,8),(0,9),(1,9),(2,9),(3,9),(4,9),(12,13),(12,18),(13,18),(14,18),(15,18),(16,18),(17,18),(12,19),(13,19),(14,19),(15,19),(16,19),(17,19),(18,19),(12,20),(13,20),(14,20),(15,20),(16,20),(17,20),(12,21),(13,21),(14,21),(15,21),(16,21),(17,21),(12,22),(13,22),(14,22),(15,22),(16,22),(17,22),(12,23),(13,23),(14,23),(15,23),(16,23),(17,23)]
def apn:AA:= .region aiy aiz [5,7,9,10,12,15,17,124]
@[go_sem] theorem r_ac_19_u:Gu X K s apn aiz aiy [5,7,9,10,12,15,17,124]:=go_regionU' _ _ _ _
@[go_sem] def bj7:Ops:=[
bs3 6 false]
def bj8:=rg bj7 [6]
def apm:=rg [
bti 97 17,bs5 98 .add 97 1,btp 17 98] [5,7,9,10,12,15,17]
def aam:AA:=(.seq (.seq apo (.cond (.t 96) .skip (.exit 2))) (.seq (.block 3 (.seq apn (.cond (.t 124) (.seq bj8 .ret) .skip))) apm))
def bo3:=btb aam.eq_1
def yr:=rg [
bti 49 10,bs5 50 .add 49 1,btp 10 50] [5,7,9,10]
def aal:AA:=(.seq (.seq apt (.cond (.t 48) .skip (.exit 0))) (.seq (.block 1 (.seq (.seq (.free 11) aps) (.seq (.seq (.free 14) apr) (.seq (.seq apq (.cond (.t 92) (.seq bka .ret) .skip)) (.seq app (.block 2 (.loop aam))))))) yr))
def bo4:=btb aal.eq_1
def yp:=rg [
bs3 6 true] [6]
def QF:AA:=(.seq PS (.seq PR (.cond (.t 19) (.seq eA .ret) (.seq PQ (.cond (.t 29) (.seq PO .ret) (.seq PN (.seq PM (.cond (.t 37) (.seq PL .ret) (.seq PK (.seq PJ (.cond (.t 44) (.seq XX .ret) (.seq (.seq bkb (.block 0 (.loop aal))) (.seq yp .ret)))))))))))))
def jZ:AN:=⟨3,[.t 6],QF⟩
def a_ac:AJ:=⟨[],zzz 12 [apt,bkb,.ret,PJ,PK,PL,PM,PN,PO,PQ,.ret,PR,PS]++[(23,[6]),(13,[5,7,9,10]),(20,[5,7,9,10,12,15,17]),(22,[6]),(21,[5,7,9,10,12,15,17,124]),(19,[5,7,9,10,12,15,17,96]),(18,[5,7,9,10,12,15,17]),(17,[6]),(16,[5,7,9,10,12,15,92]),(15,[5,7,9,10,11,12,14,15]),(14,[5,7,9,10,11,12]),(10,[6]),(2,[6])],[],[(14,[11]),(15,[14])],[],[]⟩
def tbl:List (FuncId×AN):=[(RR,iD),(RY,iP),(RJ,gS),(Q9,gA),(RA,gB),(RU,iG),(RG,gM),(RD,gG),(Pv,jV),(Hv,jY),(Rt,kA),(HF,jO),(UT,gJ),(Rf,jG),(Q5,fQ),(HB,iZ),(RE,gH),(HD,jN),(RB,gE),(Rb,iW),(G5,fU),(Ru,kB),(RZ,iQ),(Rl,jM),(Pp,gN),(UU,iY),(Q6,fX),(RM,gX),(Q1,fL),(Rp,jT),(RX,iM),(Ra,iU),(GZ,gT),(RQ,iC),(RO,gZ),(Q7,fY),(Rj,jK),(Rq,jU),(Rh,jJ),(RI,gQ),(Ps,jB),(Pr,iT),(Ph,fK),(RP,iA),(Ho,fJ),(Hp,fR),(Rc,jA),(Hr,iO),(GX,fT),(Pl,fN),(RS,iE),(GG,iK),(G4,fI),(Pn,fV),(Ht,iV),(G7,gD),(Rr,jX),(G6,fW),(Ro,jR),(Pq,iF),(G8,gO),(Pt,jC),(FY,iH),(G9,gR),(Re,jE),(RH,gP),(RK,gV),(RF,gI),(GY,Xr),(Rn,jQ),(Q2,fM),(UW,jH),(Q8,fZ),(EH,jF),(Xe,i_ft),(Rg,jI),(FZ,iR),(RW,iL),(Pu,jS),(RL,gW),(Po,gC),(Rk,jL),(RN,gY),(Q3,fO),(Hq,gK),(Pw,jW),(Pm,fS),(RV,iJ),(Hu,jD),(Rm,jP),(Hs,iS),(Q4,fP),(RC,gF),(Rs,jZ)]
def VV:List FuncId:=[49,133,132,84,32,78,76]
noncomputable def tab:List AF:=[⟨123,Tryz.f123,⟨[],[(2,[4,5]),(1,[6]),(0,[0,1])],[],[],[],[]⟩⟩,
⟨178,Tryz.f178,⟨[],[(7,[2,3]),(6,[0,5]),(5,[2,3]),(4,[0,4,5,11]),(3,[0,4,5]),(2,[0,5,6]),(1,[0,5]),(0,[0])],[],[],[],[]⟩⟩,
⟨197,Tryz.f197,⟨[],[(21,[2]),(20,[3]),(19,[3]),(18,[3]),(17,[3]),(16,[3]),(15,[3]),(14,[3]),(13,[3,29]),(12,[3,16,27]),(11,[3,16,25]),(10,[3,16,23]),(9,[3,16,21]),(8,[3,16,19]),(7,[3,16,17]),(6,[3,16]),(5,[0,3]),(2,[2]),(4,[2]),(3,[0,11]),(1,[0,4]),(0,[0])],[],[],[],[]⟩⟩,
⟨177,Tryz.f177,⟨[],[(8,[2]),(7,[0,5]),(6,[2]),(5,[0,4,5,12]),(4,[0,4,5]),(3,[0,3,5]),(2,[0,5,6]),(1,[0,5]),(0,[0])],[],[],[],[]⟩⟩,
⟨24,Tryz.f24,⟨[],[(1,[0]),(0,[0])],[],[],[],[]⟩⟩,
⟨8,Tryz.f8,⟨[16],[(9,[0]),(8,[6,7,8,11]),(7,[3,5,6,7,8]),(6,[0]),(5,[3,5,39]),(4,[3,5]),(3,[1,3]),(2,[1,2]),(1,[1]),(0,[])],[],[],[],[]⟩⟩]
set_option maxRecDepth 100000 in
theorem k_cr:AQ Tryz.prog a_cr Tryz.f74=some iD:=abv
set_option maxRecDepth 100000 in
theorem k_bw:AQ Tryz.prog a_bw Tryz.f73=some iP:=abv
set_option maxRecDepth 100000 in
theorem k_d8:AQ Tryz.prog a_d8 Tryz.f72=some gS:=abv
set_option maxRecDepth 100000 in
theorem k_dx:AQ Tryz.prog a_dx Tryz.f57=some gA:=abv
set_option maxRecDepth 100000 in
theorem k_dw:AQ Tryz.prog a_dw Tryz.f110=some gB:=abv
set_option maxRecDepth 100000 in
theorem k_cf:AQ Tryz.prog a_cf Tryz.f143=some iG:=abv
set_option maxRecDepth 100000 in
theorem k_dg:AQ Tryz.prog a_dg Tryz.f144=some gM:=abv
set_option maxRecDepth 100000 in
theorem k_dn:AQ Tryz.prog a_dn Tryz.f109=some gG:=abv
set_option maxRecDepth 100000 in
theorem k_ah:AQ Tryz.prog a_ah Tryz.f71=some jV:=abv
set_option maxRecDepth 100000 in
theorem k_ae:AQ Tryz.prog a_ae Tryz.f28=some jY:=abv
set_option maxRecDepth 100000 in
theorem k_ab:AQ Tryz.prog a_ab Tryz.f108=some kA:=abv
set_option maxRecDepth 100000 in
theorem k_aq:AQ Tryz.prog a_aq Tryz.f70=some jO:=abv
set_option maxRecDepth 100000 in
theorem k_dj:AQ Tryz.prog a_dj Tryz.f27=some gJ:=abv
set_option maxRecDepth 100000 in
theorem k_b7:AQ Tryz.prog a_b7 Tryz.f13=some jG:=abv
set_option maxRecDepth 100000 in
theorem k_ep:AQ Tryz.prog a_ep Tryz.f14=some fQ:=abv
set_option maxRecDepth 100000 in
theorem k_bh:AQ Tryz.prog a_bh Tryz.f69=some iZ:=abv
set_option maxRecDepth 100000 in
theorem k_dm:AQ Tryz.prog a_dm Tryz.f26=some gH:=abv
set_option maxRecDepth 100000 in
theorem k_au:AQ Tryz.prog a_au Tryz.f68=some jN:=abv
set_option maxRecDepth 100000 in
theorem k_dr:AQ Tryz.prog a_dr Tryz.f25=some gE:=abv
set_option maxRecDepth 100000 in
theorem k_bm:AQ Tryz.prog a_bm Tryz.f9=some iW:=abv
set_option maxRecDepth 100000 in
theorem k_ee:AQ Tryz.prog a_ee Tryz.f131=some fU:=abv
set_option maxRecDepth 100000 in
theorem k_aa:AQ Tryz.prog a_aa Tryz.f130=some kB:=abv
set_option maxRecDepth 100000 in
theorem k_bu:AQ Tryz.prog a_bu Tryz.f91=some iQ:=abv
set_option maxRecDepth 100000 in
theorem k_av:AQ Tryz.prog a_av Tryz.f129=some jM:=abv
set_option maxRecDepth 100000 in
theorem k_df:AQ Tryz.prog a_df Tryz.f90=some gN:=abv
set_option maxRecDepth 100000 in
theorem k_bk:AQ Tryz.prog a_bk Tryz.f48=some iY:=abv
set_option maxRecDepth 100000 in
theorem k_e9:AQ Tryz.prog a_e9 Tryz.f47=some fX:=abv
set_option maxRecDepth 100000 in
theorem k_cy:AQ Tryz.prog a_cy Tryz.f124=some gX:=abv
set_option maxRecDepth 100000 in
theorem k_fm:AQ Tryz.prog a_fm Tryz.f88=some fL:=abv
set_option maxRecDepth 100000 in
theorem k_aj:AQ Tryz.prog a_aj Tryz.f46=some jT:=abv
set_option maxRecDepth 100000 in
theorem k_c7:AQ Tryz.prog a_c7 Tryz.f45=some iM:=abv
set_option maxRecDepth 100000 in
theorem k_bo:AQ Tryz.prog a_bo Tryz.f44=some iU:=abv
set_option maxRecDepth 100000 in
theorem k_d7:AQ Tryz.prog a_d7 Tryz.f43=some gT:=abv
set_option maxRecDepth 100000 in
theorem k_ct:AQ Tryz.prog a_ct Tryz.f42=some iC:=abv
set_option maxRecDepth 100000 in
theorem k_cw:AQ Tryz.prog a_cw Tryz.f161=some gZ:=abv
set_option maxRecDepth 100000 in
theorem k_dz:AQ Tryz.prog a_dz Tryz.f160=some fY:=abv
set_option maxRecDepth 100000 in
theorem k_ax:AQ Tryz.prog a_ax Tryz.f122=some jK:=abv
set_option maxRecDepth 100000 in
theorem k_ai:AQ Tryz.prog a_ai Tryz.f159=some jU:=abv
set_option maxRecDepth 100000 in
theorem k_ay:AQ Tryz.prog a_ay Tryz.f182=some jJ:=abv
set_option maxRecDepth 100000 in
theorem k_da:AQ Tryz.prog a_da Tryz.f158=some gQ:=abv
set_option maxRecDepth 100000 in
theorem k_bc:AQ Tryz.prog a_bc Tryz.f157=some jB:=abv
set_option maxRecDepth 100000 in
theorem k_bp:AQ Tryz.prog a_bp Tryz.f179=some iT:=abv
set_option maxRecDepth 100000 in
theorem k_fw:AQ Tryz.prog a_fw Tryz.f180=some fK:=abv
set_option maxRecDepth 100000 in
theorem k_cu:AQ Tryz.prog a_cu Tryz.f184=some iA:=abv
set_option maxRecDepth 100000 in
theorem k_fy:AQ Tryz.prog a_fy Tryz.f176=some fJ:=abv
set_option maxRecDepth 100000 in
theorem k_ej:AQ Tryz.prog a_ej Tryz.f175=some fR:=abv
set_option maxRecDepth 100000 in
theorem k_bg:AQ Tryz.prog a_bg Tryz.f156=some jA:=abv
set_option maxRecDepth 100000 in
theorem k_bz:AQ Tryz.prog a_bz Tryz.f121=some iO:=abv
set_option maxRecDepth 100000 in
theorem k_ef:AQ Tryz.prog a_ef Tryz.f181=some fT:=abv
set_option maxRecDepth 100000 in
theorem k_fg:AQ Tryz.prog a_fg Tryz.f174=some fN:=abv
set_option maxRecDepth 100000 in
theorem k_cn:AQ Tryz.prog a_cn Tryz.f154=some iE:=abv
set_option maxRecDepth 100000 in
theorem k_c9:AQ Tryz.prog a_c9 Tryz.f86=some iK:=abv
set_option maxRecDepth 100000 in
theorem k_fz:AQ Tryz.prog a_fz Tryz.f87=some fI:=abv
set_option maxRecDepth 100000 in
theorem k_ed:AQ Tryz.prog a_ed Tryz.f153=some fV:=abv
set_option maxRecDepth 100000 in
theorem k_bn:AQ Tryz.prog a_bn Tryz.f152=some iV:=abv
set_option maxRecDepth 100000 in
theorem k_dt:AQ Tryz.prog a_dt Tryz.f151=some gD:=abv
set_option maxRecDepth 100000 in
theorem k_af:AQ Tryz.prog a_af Tryz.f119=some jX:=abv
set_option maxRecDepth 100000 in
theorem k_eb:AQ Tryz.prog a_eb Tryz.f150=some fW:=abv
set_option maxRecDepth 100000 in
theorem k_am:AQ Tryz.prog a_am Tryz.f173=some jR:=abv
set_option maxRecDepth 100000 in
theorem k_cg:AQ Tryz.prog a_cg Tryz.f149=some iF:=abv
set_option maxRecDepth 100000 in
theorem k_de:AQ Tryz.prog a_de Tryz.f118=some gO:=abv
set_option maxRecDepth 100000 in
theorem k_bb:AQ Tryz.prog a_bb Tryz.f85=some jC:=abv
set_option maxRecDepth 100000 in
theorem k_ce:AQ Tryz.prog a_ce Tryz.f39=some iH:=abv
set_option maxRecDepth 100000 in
theorem k_d9:AQ Tryz.prog a_d9 Tryz.f41=some gR:=abv
set_option maxRecDepth 100000 in
theorem k_b9:AQ Tryz.prog a_b9 Tryz.f40=some jE:=abv
set_option maxRecDepth 100000 in
theorem k_db:AQ Tryz.prog a_db Tryz.f38=some gP:=abv
set_option maxRecDepth 100000 in
theorem k_d6:AQ Tryz.prog a_d6 Tryz.f116=some gV:=abv
set_option maxRecDepth 100000 in
theorem k_dl:AQ Tryz.prog a_dl Tryz.f172=some gI:=abv
set_option maxRecDepth 100000 in
theorem k_di:AQ Tryz.prog a_di Tryz.f148=some Xr:=abv
set_option maxRecDepth 100000 in
theorem k_ao:AQ Tryz.prog a_ao Tryz.f171=some jQ:=abv
set_option maxRecDepth 100000 in
theorem k_fh:AQ Tryz.prog a_fh Tryz.f170=some fM:=abv
set_option maxRecDepth 100000 in
theorem k_b6:AQ Tryz.prog a_b6 Tryz.f146=some jH:=abv
set_option maxRecDepth 100000 in
theorem k_dy:AQ Tryz.prog a_dy Tryz.f115=some fZ:=abv
set_option maxRecDepth 100000 in
theorem k_b8:AQ Tryz.prog a_b8 Tryz.f114=some jF:=abv
set_option maxRecDepth 100000 in
theorem k_ft:AQ Tryz.prog a_ft Tryz.f113=some i_ft:=abv
set_option maxRecDepth 100000 in
theorem k_az:AQ Tryz.prog a_az Tryz.f80=some jI:=abv
set_option maxRecDepth 100000 in
theorem k_br:AQ Tryz.prog a_br Tryz.f35=some iR:=abv
set_option maxRecDepth 100000 in
theorem k_c8:AQ Tryz.prog a_c8 Tryz.f82=some iL:=abv
set_option maxRecDepth 100000 in
theorem k_ak:AQ Tryz.prog a_ak Tryz.f37=some jS:=abv
set_option maxRecDepth 100000 in
theorem k_cz:AQ Tryz.prog a_cz Tryz.f81=some gW:=abv
set_option maxRecDepth 100000 in
theorem k_du:AQ Tryz.prog a_du Tryz.f36=some gC:=abv
set_option maxRecDepth 100000 in
theorem k_aw:AQ Tryz.prog a_aw Tryz.f112=some jL:=abv
set_option maxRecDepth 100000 in
theorem k_cx:AQ Tryz.prog a_cx Tryz.f79=some gY:=abv
set_option maxRecDepth 100000 in
theorem k_f6:AQ Tryz.prog a_f6 Tryz.f34=some fO:=abv
set_option maxRecDepth 100000 in
theorem k_dh:AQ Tryz.prog a_dh Tryz.f15=some gK:=abv
set_option maxRecDepth 100000 in
theorem k_ag:AQ Tryz.prog a_ag Tryz.f16=some jW:=abv
set_option maxRecDepth 100000 in
theorem k_eh:AQ Tryz.prog a_eh Tryz.f17=some fS:=abv
set_option maxRecDepth 100000 in
theorem k_cc:AQ Tryz.prog a_cc Tryz.f77=some iJ:=abv
set_option maxRecDepth 100000 in
theorem k_ba:AQ Tryz.prog a_ba Tryz.f33=some jD:=abv
set_option maxRecDepth 100000 in
theorem k_ap:AQ Tryz.prog a_ap Tryz.f111=some jP:=abv
set_option maxRecDepth 100000 in
theorem k_bq:AQ Tryz.prog a_bq Tryz.f75=some iS:=abv
set_option maxRecDepth 100000 in
theorem k_ew:AQ Tryz.prog a_ew Tryz.f31=some fP:=abv
set_option maxRecDepth 100000 in
theorem k_dq:AQ Tryz.prog a_dq Tryz.f12=some gF:=abv
set_option maxRecDepth 100000 in
theorem k_ac:AQ Tryz.prog a_ac Tryz.f4=some jZ:=abv
theorem bX:Entries Tryz.prog tbl:=
 .cons (.of Tryz.func74 abv k_cr) <|
 .cons (.of Tryz.func73 abv k_bw) <|
 .cons (.of Tryz.func72 abv k_d8) <|
 .cons (.of Tryz.func57 abv k_dx) <|
 .cons (.of Tryz.func110 abv k_dw) <|
 .cons (.of Tryz.func143 abv k_cf) <|
 .cons (.of Tryz.func144 abv k_dg) <|
 .cons (.of Tryz.func109 abv k_dn) <|
 .cons (.of Tryz.func71 abv k_ah) <|
 .cons (.of Tryz.func28 abv k_ae) <|
 .cons (.of Tryz.func108 abv k_ab) <|
 .cons (.of Tryz.func70 abv k_aq) <|
 .cons (.of Tryz.func27 abv k_dj) <|
 .cons (.of Tryz.func13 abv k_b7) <|
 .cons (.of Tryz.func14 abv k_ep) <|
 .cons (.of Tryz.func69 abv k_bh) <|
 .cons (.of Tryz.func26 abv k_dm) <|
 .cons (.of Tryz.func68 abv k_au) <|
 .cons (.of Tryz.func25 abv k_dr) <|
 .cons (.of Tryz.func9 abv k_bm) <|
 .cons (.of Tryz.func131 abv k_ee) <|
 .cons (.of Tryz.func130 abv k_aa) <|
 .cons (.of Tryz.func91 abv k_bu) <|
 .cons (.of Tryz.func129 abv k_av) <|
 .cons (.of Tryz.func90 abv k_df) <|
 .cons (.of Tryz.func48 abv k_bk) <|
 .cons (.of Tryz.func47 abv k_e9) <|
 .cons (.of Tryz.func124 abv k_cy) <|
 .cons (.of Tryz.func88 abv k_fm) <|
 .cons (.of Tryz.func46 abv k_aj) <|
 .cons (.of Tryz.func45 abv k_c7) <|
 .cons (.of Tryz.func44 abv k_bo) <|
 .cons (.of Tryz.func43 abv k_d7) <|
 .cons (.of Tryz.func42 abv k_ct) <|
 .cons (.of Tryz.func161 abv k_cw) <|
 .cons (.of Tryz.func160 abv k_dz) <|
 .cons (.of Tryz.func122 abv k_ax) <|
 .cons (.of Tryz.func159 abv k_ai) <|
 .cons (.of Tryz.func182 abv k_ay) <|
 .cons (.of Tryz.func158 abv k_da) <|
 .cons (.of Tryz.func157 abv k_bc) <|
 .cons (.of Tryz.func179 abv k_bp) <|
 .cons (.of Tryz.func180 abv k_fw) <|
 .cons (.of Tryz.func184 abv k_cu) <|
 .cons (.of Tryz.func176 abv k_fy) <|
 .cons (.of Tryz.func175 abv k_ej) <|
 .cons (.of Tryz.func156 abv k_bg) <|
 .cons (.of Tryz.func121 abv k_bz) <|
 .cons (.of Tryz.func181 abv k_ef) <|
 .cons (.of Tryz.func174 abv k_fg) <|
 .cons (.of Tryz.func154 abv k_cn) <|
 .cons (.of Tryz.func86 abv k_c9) <|
 .cons (.of Tryz.func87 abv k_fz) <|
 .cons (.of Tryz.func153 abv k_ed) <|
 .cons (.of Tryz.func152 abv k_bn) <|
 .cons (.of Tryz.func151 abv k_dt) <|
 .cons (.of Tryz.func119 abv k_af) <|
 .cons (.of Tryz.func150 abv k_eb) <|
 .cons (.of Tryz.func173 abv k_am) <|
 .cons (.of Tryz.func149 abv k_cg) <|
 .cons (.of Tryz.func118 abv k_de) <|
 .cons (.of Tryz.func85 abv k_bb) <|
 .cons (.of Tryz.func39 abv k_ce) <|
 .cons (.of Tryz.func41 abv k_d9) <|
 .cons (.of Tryz.func40 abv k_b9) <|
 .cons (.of Tryz.func38 abv k_db) <|
 .cons (.of Tryz.func116 abv k_d6) <|
 .cons (.of Tryz.func172 abv k_dl) <|
 .cons (.of Tryz.func148 abv k_di) <|
 .cons (.of Tryz.func171 abv k_ao) <|
 .cons (.of Tryz.func170 abv k_fh) <|
 .cons (.of Tryz.func146 abv k_b6) <|
 .cons (.of Tryz.func115 abv k_dy) <|
 .cons (.of Tryz.func114 abv k_b8) <|
 .cons (.of Tryz.func113 abv k_ft) <|
 .cons (.of Tryz.func80 abv k_az) <|
 .cons (.of Tryz.func35 abv k_br) <|
 .cons (.of Tryz.func82 abv k_c8) <|
 .cons (.of Tryz.func37 abv k_ak) <|
 .cons (.of Tryz.func81 abv k_cz) <|
 .cons (.of Tryz.func36 abv k_du) <|
 .cons (.of Tryz.func112 abv k_aw) <|
 .cons (.of Tryz.func79 abv k_cx) <|
 .cons (.of Tryz.func34 abv k_f6) <|
 .cons (.of Tryz.func15 abv k_dh) <|
 .cons (.of Tryz.func16 abv k_ag) <|
 .cons (.of Tryz.func17 abv k_eh) <|
 .cons (.of Tryz.func77 abv k_cc) <|
 .cons (.of Tryz.func33 abv k_ba) <|
 .cons (.of Tryz.func111 abv k_ap) <|
 .cons (.of Tryz.func75 abv k_bq) <|
 .cons (.of Tryz.func31 abv k_ew) <|
 .cons (.of Tryz.func12 abv k_dq) <|
 .cons (.of Tryz.func4 abv k_ac) <|
 .nil
theorem bY:QP Tryz.prog tab:=
 .cons Tryz.func123 abv <|
 .cons Tryz.func178 abv <|
 .cons Tryz.func197 abv <|
 .cons Tryz.func177 abv <|
 .cons Tryz.func24 abv <|
 .cons Tryz.func8 abv <|
 .nil
noncomputable def exts [Sh]:FuncId→Option (List D→Option V):=fun f=>if f=Qx then some (uu) else if f=Qw then some (SZ) else if f=Qy then some (od) else if f=Qz then some (kw) else if f=Q0 then some (dg) else if f=Pj then some (Ej Hm) else if f=Pk then some (Ej Hn) else if f=Hl then(if Sh.on then some Dw else none) else none
def Uh:FuncId→Option (List D→Option (List (List D))):=fun f=>if f=Hm then some (jj) else if f=Hn then some (jj) else none
noncomputable def cfg [Sh]:Cfg:={funcs:=U2 Tryz.prog tbl tab,GH:=fun _ _=>none,H3:=fun _=>none,CV:=fun _=>none,Gk:=fun _=>false,clip:=fun f=>VV.contains f,ext:=exts,iter:=Uh}
variable [Sh]
noncomputable abbrev WL:Kx:=fx cfg 0 [.cell 6 (some 6)]
theorem e_cr:Oe cfg RR 3 [.cell 6 (some 6)] QB:=fun _ _ _=>ab (fn:=iD) rfl rfl _ _ _
theorem o_cr (x0 x1 x2:D):Of WL RR [.d x0,.d x1,.d x2] QB:=e_cr 0 _ _ rfl rfl
noncomputable abbrev QL:Kx:=fx cfg 0 [.t 2]
theorem e_bw:Oe cfg RY 1 [.t 2] Y0:=fun _ _ _=>ab (fn:=iP) rfl rfl _ _ _
theorem o_bw (x0:D):Of QL RY [.d x0] Y0:=e_bw 0 _ _ rfl rfl
noncomputable abbrev X_d8:Kx:=fx cfg 0 [.t 2]
theorem e_d8:Oe cfg RJ 1 [.t 2] Yq:=fun _ _ _=>ab (fn:=gS) rfl rfl _ _ _
theorem o_d8 (x0:D):Of X_d8 RJ [.d x0] Yq:=e_d8 0 _ _ rfl rfl
noncomputable abbrev X_dx:Kx:=fx cfg 0 [.t 2]
theorem e_dx:Oe cfg Q9 1 [.t 2] Yd:=fun _ _ _=>ab (fn:=gA) rfl rfl _ _ _
theorem o_dx (x0:D):Of X_dx Q9 [.d x0] Yd:=e_dx 0 _ _ rfl rfl
noncomputable abbrev X_dw:Kx:=fx cfg 0 [.t 4]
theorem e_dw:Oe cfg RA 2 [.t 4] Ye:=fun _ _ _=>ab (fn:=gB) rfl rfl _ _ _
theorem o_dw (x0 x1:D):Of X_dw RA [.d x0,.d x1] Ye:=e_dw 0 _ _ rfl rfl
noncomputable abbrev WM:Kx:=fx cfg 0 [.t 2]
theorem e_cf:Oe cfg RU 1 [.t 2] Yw:=fun _ _ _=>ab (fn:=iG) rfl rfl _ _ _
theorem o_cf (x0:D):Of WM RU [.d x0] Yw:=e_cf 0 _ _ rfl rfl
noncomputable abbrev X_dg:Kx:=fx cfg 0 [.t 2]
theorem e_dg:Oe cfg RG 1 [.t 2] Yn:=fun _ _ _=>ab (fn:=gM) rfl rfl _ _ _
theorem o_dg (x0:D):Of X_dg RG [.d x0] Yn:=e_dg 0 _ _ rfl rfl
noncomputable abbrev X_dn:Kx:=fx cfg 0 [.t 2]
theorem e_dn:Oe cfg RD 1 [.t 2] Yi:=fun _ _ _=>ab (fn:=gG) rfl rfl _ _ _
theorem o_dn (x0:D):Of X_dn RD [.d x0] Yi:=e_dn 0 _ _ rfl rfl
noncomputable abbrev X_ah:Kx:=fx cfg 0 [.t 6]
theorem e_ah:Oe cfg Pv 3 [.t 6] ZC:=fun _ _ _=>ab (fn:=jV) rfl rfl _ _ _
theorem o_ah (x0 x1 x2:D):Of X_ah Pv [.d x0,.d x1,.d x2] ZC:=e_ah 0 _ _ rfl rfl
noncomputable abbrev IM:Kx:=fx cfg 0 [.t 4]
theorem e_ae:Oe cfg Hv 2 [.t 4] SH:=fun _ _ _=>ab (fn:=jY) rfl rfl _ _ _
theorem o_ae (x0 x1:D):Of IM Hv [.d x0,.d x1] SH:=e_ae 0 _ _ rfl rfl
noncomputable abbrev Cd:Kx:=fx cfg 0 [.t 2]
theorem e_ab:Oe cfg Rt 1 [.t 2] D4:=fun _ _ _=>ab (fn:=kA) rfl rfl _ _ _
theorem o_ab (x0:D):Of Cd Rt [.d x0] D4:=e_ab 0 _ _ rfl rfl
noncomputable abbrev HW:Kx:=fx cfg 0 [.t 6,.t 7]
theorem e_aq:Oe cfg HF 3 [.t 6,.t 7] QD:=fun _ _ _=>ab (fn:=jO) rfl rfl _ _ _
theorem o_aq (x0 x1 x2:D):Of HW HF [.d x0,.d x1,.d x2] QD:=e_aq 0 _ _ rfl rfl
noncomputable abbrev X_dj:Kx:=fx cfg 0 [.t 2]
theorem e_dj:Oe cfg UT 1 [.t 2] Yl:=fun _ _ _=>ab (fn:=gJ) rfl rfl _ _ _
theorem o_dj (x0:D):Of X_dj UT [.d x0] Yl:=e_dj 0 _ _ rfl rfl
noncomputable abbrev Fh:Kx:=fx cfg 0 [.t 2]
theorem e_b7:Oe cfg Rf 1 [.t 2] E6:=fun _ _ _=>ab (fn:=jG) rfl rfl _ _ _
theorem o_b7 (x0:D):Of Fh Rf [.d x0] E6:=e_b7 0 _ _ rfl rfl
noncomputable abbrev X_ep:Kx:=fx cfg 0 [.cell 2 (some 6)]
theorem e_ep:Oe cfg Q5 1 [.cell 2 (some 6)] YZ:=fun _ _ _=>ab (fn:=fQ) rfl rfl _ _ _
theorem o_ep (x0:D):Of X_ep Q5 [.d x0] YZ:=e_ep 0 _ _ rfl rfl
noncomputable abbrev HQ:Kx:=fx cfg 0 [.t 4]
theorem e_bh:Oe cfg HB 2 [.t 4] QC:=fun _ _ _=>ab (fn:=iZ) rfl rfl _ _ _
theorem o_bh (x0 x1:D):Of HQ HB [.d x0,.d x1] QC:=e_bh 0 _ _ rfl rfl
noncomputable abbrev X_dm:Kx:=fx cfg 0 [.t 2]
theorem e_dm:Oe cfg RE 1 [.t 2] Yj:=fun _ _ _=>ab (fn:=gH) rfl rfl _ _ _
theorem o_dm (x0:D):Of X_dm RE [.d x0] Yj:=e_dm 0 _ _ rfl rfl
noncomputable abbrev E8:Kx:=fx cfg 0 [.t 4]
theorem e_au:Oe cfg HD 2 [.t 4] ID:=fun _ _ _=>ab (fn:=jN) rfl rfl _ _ _
theorem o_au (x0 x1:D):Of E8 HD [.d x0,.d x1] ID:=e_au 0 _ _ rfl rfl
noncomputable abbrev X_dr:Kx:=fx cfg 0 [.t 2]
theorem e_dr:Oe cfg RB 1 [.t 2] Yg:=fun _ _ _=>ab (fn:=gE) rfl rfl _ _ _
theorem o_dr (x0:D):Of X_dr RB [.d x0] Yg:=e_dr 0 _ _ rfl rfl
noncomputable abbrev IL:Kx:=fx cfg 0 [.t 4]
theorem e_bm:Oe cfg Rb 2 [.t 4] SC:=fun _ _ _=>ab (fn:=iW) rfl rfl _ _ _
theorem o_bm (x0 x1:D):Of IL Rb [.d x0,.d x1] SC:=e_bm 0 _ _ rfl rfl
noncomputable abbrev X_ee:Kx:=fx cfg 0 [.t 4]
theorem e_ee:Oe cfg G5 2 [.t 4] Yb:=fun _ _ _=>ab (fn:=fU) rfl rfl _ _ _
theorem o_ee (x0 x1:D):Of X_ee G5 [.d x0,.d x1] Yb:=e_ee 0 _ _ rfl rfl
noncomputable abbrev IP:Kx:=fx cfg 0 [.t 6,.t 7]
theorem e_aa:Oe cfg Ru 3 [.t 6,.t 7] Vx:=fun _ _ _=>ab (fn:=kB) rfl rfl _ _ _
theorem o_aa (x0 x1 x2:D):Of IP Ru [.d x0,.d x1,.d x2] Vx:=e_aa 0 _ _ rfl rfl
noncomputable abbrev Ef:Kx:=fx cfg 0 [.cell 2 (some 2)]
theorem e_bu:Oe cfg RZ 1 [.cell 2 (some 2)] Y1:=fun _ _ _=>ab (fn:=iQ) rfl rfl _ _ _
theorem o_bu (x0:D):Of Ef RZ [.d x0] Y1:=e_bu 0 _ _ rfl rfl
noncomputable abbrev GU:Kx:=fx cfg 0 [.t 4]
theorem e_av:Oe cfg Rl 2 [.t 4] SG:=fun _ _ _=>ab (fn:=jM) rfl rfl _ _ _
theorem o_av (x0 x1:D):Of GU Rl [.d x0,.d x1] SG:=e_av 0 _ _ rfl rfl
noncomputable abbrev QJ:Kx:=fx cfg 0 [.t 2,.t 3]
theorem e_df:Oe cfg Pp 1 [.t 2,.t 3] Vp:=fun _ _ _=>ab (fn:=gN) rfl rfl _ _ _
theorem o_df (x0:D):Of QJ Pp [.d x0] Vp:=e_df 0 _ _ rfl rfl
noncomputable abbrev ZQ:Kx:=fx cfg 0 []
theorem e_bk:Oe cfg UU 3 [] SD:=fun _ _ _=>ab (fn:=iY) rfl rfl _ _ _
noncomputable abbrev oA:Kx:=fx cfg 0 [.t 4]
theorem e_e9:Oe cfg Q6 2 [.t 4] Vm:=fun _ _ _=>ab (fn:=fX) rfl rfl _ _ _
theorem o_e9 (x0 x1:D):Of oA Q6 [.d x0,.d x1] Vm:=e_e9 0 _ _ rfl rfl
noncomputable abbrev X_cy:Kx:=fx cfg 0 [.t 4,.t 5]
theorem e_cy:Oe cfg RM 2 [.t 4,.t 5] Yt:=fun _ _ _=>ab (fn:=gX) rfl rfl _ _ _
theorem o_cy (x0 x1:D):Of X_cy RM [.d x0,.d x1] Yt:=e_cy 0 _ _ rfl rfl
noncomputable abbrev X_fm:Kx:=fx cfg 0 [.t 4,.t 5]
theorem e_fm:Oe cfg Q1 2 [.t 4,.t 5] YW:=fun _ _ _=>ab (fn:=fL) rfl rfl _ _ _
theorem o_fm (x0 x1:D):Of X_fm Q1 [.d x0,.d x1] YW:=e_fm 0 _ _ rfl rfl
noncomputable abbrev WQ:Kx:=fx cfg 0 [.t 4]
theorem e_aj:Oe cfg Rp 2 [.t 4] ZB:=fun _ _ _=>ab (fn:=jT) rfl rfl _ _ _
theorem o_aj (x0 x1:D):Of WQ Rp [.d x0,.d x1] ZB:=e_aj 0 _ _ rfl rfl
noncomputable abbrev QK:Kx:=fx cfg 0 [.t 2]
theorem e_c7:Oe cfg RX 1 [.t 2] Yz:=fun _ _ _=>ab (fn:=iM) rfl rfl _ _ _
theorem o_c7 (x0:D):Of QK RX [.d x0] Yz:=e_c7 0 _ _ rfl rfl
noncomputable abbrev F6:Kx:=fx cfg 0 [.t 2]
theorem e_bo:Oe cfg Ra 1 [.t 2] SA:=fun _ _ _=>ab (fn:=iU) rfl rfl _ _ _
theorem o_bo (x0:D):Of F6 Ra [.d x0] SA:=e_bo 0 _ _ rfl rfl
noncomputable abbrev X_d7:Kx:=fx cfg 0 [.t 2]
theorem e_d7:Oe cfg GZ 1 [.t 2] Yr:=fun _ _ _=>ab (fn:=gT) rfl rfl _ _ _
theorem o_d7 (x0:D):Of X_d7 GZ [.d x0] Yr:=e_d7 0 _ _ rfl rfl
noncomputable abbrev WK:Kx:=fx cfg 0 [.t 4]
theorem e_ct:Oe cfg RQ 2 [.t 4] Yu:=fun _ _ _=>ab (fn:=iC) rfl rfl _ _ _
theorem o_ct (x0 x1:D):Of WK RQ [.d x0,.d x1] Yu:=e_ct 0 _ _ rfl rfl
noncomputable abbrev HM:Kx:=fx cfg 0 [.t 2]
theorem e_cw:Oe cfg RO 1 [.t 2] R7:=fun _ _ _=>ab (fn:=gZ) rfl rfl _ _ _
theorem o_cw (x0:D):Of HM RO [.d x0] R7:=e_cw 0 _ _ rfl rfl
noncomputable abbrev ZP:Kx:=fx cfg 0 []
theorem e_dz:Oe cfg Q7 5 [] R6:=fun _ _ _=>ab (fn:=fY) rfl rfl _ _ _
noncomputable abbrev QN:Kx:=fx cfg 0 [.t 4]
theorem e_ax:Oe cfg Rj 2 [.t 4] Y6:=fun _ _ _=>ab (fn:=jK) rfl rfl _ _ _
theorem o_ax (x0 x1:D):Of QN Rj [.d x0,.d x1] Y6:=e_ax 0 _ _ rfl rfl
noncomputable abbrev Eh:Kx:=fx cfg 0 [.t 6,.t 7]
theorem e_ai:Oe cfg Rq 3 [.t 6,.t 7] QE:=fun _ _ _=>ab (fn:=jU) rfl rfl _ _ _
theorem o_ai (x0 x1 x2:D):Of Eh Rq [.d x0,.d x1,.d x2] QE:=e_ai 0 _ _ rfl rfl
noncomputable abbrev HV:Kx:=fx cfg 0 [.t 6]
theorem e_ay:Oe cfg Rh 3 [.t 6] GR:=fun _ _ _=>ab (fn:=jJ) rfl rfl _ _ _
theorem o_ay (x0 x1 x2:D):Of HV Rh [.d x0,.d x1,.d x2] GR:=e_ay 0 _ _ rfl rfl
noncomputable abbrev oF:Kx:=fx cfg 0 [.t 8,.t 9]
theorem e_da:Oe cfg RI 4 [.t 8,.t 9] Vr:=fun _ _ _=>ab (fn:=gQ) rfl rfl _ _ _
theorem o_da (x0 x1 x2 x3:D):Of oF RI [.d x0,.d x1,.d x2,.d x3] Vr:=e_da 0 _ _ rfl rfl
noncomputable abbrev DH:Kx:=fx cfg 0 [.t 2,.t 3,.t 4]
theorem e_bc:Oe cfg Ps 1 [.t 2,.t 3,.t 4] Y3:=fun _ _ _=>ab (fn:=jB) rfl rfl _ _ _
theorem o_bc (x0:D):Of DH Ps [.d x0] Y3:=e_bc 0 _ _ rfl rfl
noncomputable abbrev D5:Kx:=fx cfg 0 [.t 6]
theorem e_bp:Oe cfg Pr 3 [.t 6] Vu:=fun _ _ _=>ab (fn:=iT) rfl rfl _ _ _
theorem o_bp (x0 x1 x2:D):Of D5 Pr [.d x0,.d x1,.d x2] Vu:=e_bp 0 _ _ rfl rfl
noncomputable abbrev nX:Kx:=fx cfg 0 [.t 8]
theorem e_fw:Oe cfg Ph 4 [.t 8] Vi:=fun _ _ _=>ab (fn:=fK) rfl rfl _ _ _
theorem o_fw (x0 x1 x2 x3:D):Of nX Ph [.d x0,.d x1,.d x2,.d x3] Vi:=e_fw 0 _ _ rfl rfl
noncomputable abbrev GS:Kx:=fx cfg 0 [.t 2]
theorem e_cu:Oe cfg RP 1 [.t 2] Fy:=fun _ _ _=>ab (fn:=iA) rfl rfl _ _ _
theorem o_cu (x0:D):Of GS RP [.d x0] Fy:=e_cu 0 _ _ rfl rfl
noncomputable abbrev X_fy:Kx:=fx cfg 0 [.t 2]
theorem e_fy:Oe cfg Ho 1 [.t 2] YV:=fun _ _ _=>ab (fn:=fJ) rfl rfl _ _ _
theorem o_fy (x0:D):Of X_fy Ho [.d x0] YV:=e_fy 0 _ _ rfl rfl
noncomputable abbrev nY:Kx:=fx cfg 0 [.t 4]
theorem e_ej:Oe cfg Hp 2 [.t 4] Vk:=fun _ _ _=>ab (fn:=fR) rfl rfl _ _ _
theorem o_ej (x0 x1:D):Of nY Hp [.d x0,.d x1] Vk:=e_ej 0 _ _ rfl rfl
noncomputable abbrev QM:Kx:=fx cfg 0 [.t 6,.t 7]
theorem e_bg:Oe cfg Rc 3 [.t 6,.t 7] Y2:=fun _ _ _=>ab (fn:=jA) rfl rfl _ _ _
theorem o_bg (x0 x1 x2:D):Of QM Rc [.d x0,.d x1,.d x2] Y2:=e_bg 0 _ _ rfl rfl
noncomputable abbrev Dv:Kx:=fx cfg 0 [.t 6]
theorem e_bz:Oe cfg Hr 3 [.t 6] EB:=fun _ _ _=>ab (fn:=iO) rfl rfl _ _ _
theorem o_bz (x0 x1 x2:D):Of Dv Hr [.d x0,.d x1,.d x2] EB:=e_bz 0 _ _ rfl rfl
noncomputable abbrev ZO:Kx:=fx cfg 0 [.t 4,.t 5]
theorem e_ef:Oe cfg GX 2 [.t 4,.t 5] R5:=fun _ _ _=>ab (fn:=fT) rfl rfl _ _ _
theorem o_ef (x0 x1:D):Of ZO GX [.d x0,.d x1] R5:=e_ef 0 _ _ rfl rfl
noncomputable abbrev WI:Kx:=fx cfg 0 [.t 4,.t 5]
theorem e_fg:Oe cfg Pl 2 [.t 4,.t 5] QA:=fun _ _ _=>ab (fn:=fN) rfl rfl _ _ _
theorem o_fg (x0 x1:D):Of WI Pl [.d x0,.d x1] QA:=e_fg 0 _ _ rfl rfl
noncomputable abbrev HP:Kx:=fx cfg 0 [.t 2,.t 3]
theorem e_cn:Oe cfg RS 1 [.t 2,.t 3] R8:=fun _ _ _=>ab (fn:=iE) rfl rfl _ _ _
theorem o_cn (x0:D):Of HP RS [.d x0] R8:=e_cn 0 _ _ rfl rfl
noncomputable abbrev IJ:Kx:=fx cfg 0 [.t 4]
theorem e_c9:Oe cfg GG 2 [.t 4] R9:=fun _ _ _=>ab (fn:=iK) rfl rfl _ _ _
theorem o_c9 (x0 x1:D):Of IJ GG [.d x0,.d x1] R9:=e_c9 0 _ _ rfl rfl
noncomputable abbrev X_fz:Kx:=fx cfg 0 [.t 2]
theorem e_fz:Oe cfg G4 1 [.t 2] YU:=fun _ _ _=>ab (fn:=fI) rfl rfl _ _ _
theorem o_fz (x0:D):Of X_fz G4 [.d x0] YU:=e_fz 0 _ _ rfl rfl
noncomputable abbrev nZ:Kx:=fx cfg 0 [.t 6]
theorem e_ed:Oe cfg Pn 3 [.t 6] Vl:=fun _ _ _=>ab (fn:=fV) rfl rfl _ _ _
theorem o_ed (x0 x1 x2:D):Of nZ Pn [.d x0,.d x1,.d x2] Vl:=e_ed 0 _ _ rfl rfl
noncomputable abbrev F7:Kx:=fx cfg 0 []
theorem e_bn:Oe cfg Ht 3 [] SB:=fun _ _ _=>ab (fn:=iV) rfl rfl _ _ _
noncomputable abbrev X_dt:Kx:=fx cfg 0 [.t 2]
theorem e_dt:Oe cfg G7 1 [.t 2] Yf:=fun _ _ _=>ab (fn:=gD) rfl rfl _ _ _
theorem o_dt (x0:D):Of X_dt G7 [.d x0] Yf:=e_dt 0 _ _ rfl rfl
noncomputable abbrev DU:Kx:=fx cfg 0 [.t 4,.t 5]
theorem e_af:Oe cfg Rr 2 [.t 4,.t 5] Vw:=fun _ _ _=>ab (fn:=jX) rfl rfl _ _ _
theorem o_af (x0 x1:D):Of DU Rr [.d x0,.d x1] Vw:=e_af 0 _ _ rfl rfl
noncomputable abbrev X_eb:Kx:=fx cfg 0 [.t 2]
theorem e_eb:Oe cfg G6 1 [.t 2] Yc:=fun _ _ _=>ab (fn:=fW) rfl rfl _ _ _
theorem o_eb (x0:D):Of X_eb G6 [.d x0] Yc:=e_eb 0 _ _ rfl rfl
noncomputable abbrev SR:Kx:=fx cfg 0 [.t 4]
theorem e_am:Oe cfg Ro 2 [.t 4] Y9:=fun _ _ _=>ab (fn:=jR) rfl rfl _ _ _
theorem o_am (x0 x1:D):Of SR Ro [.d x0,.d x1] Y9:=e_am 0 _ _ rfl rfl
noncomputable abbrev X_cg:Kx:=fx cfg 0 [.t 4]
theorem e_cg:Oe cfg Pq 2 [.t 4] Yv:=fun _ _ _=>ab (fn:=iF) rfl rfl _ _ _
theorem o_cg (x0 x1:D):Of X_cg Pq [.d x0,.d x1] Yv:=e_cg 0 _ _ rfl rfl
noncomputable abbrev oE:Kx:=fx cfg 0 [.t 4]
theorem e_de:Oe cfg G8 2 [.t 4] Vq:=fun _ _ _=>ab (fn:=gO) rfl rfl _ _ _
theorem o_de (x0 x1:D):Of oE G8 [.d x0,.d x1] Vq:=e_de 0 _ _ rfl rfl
noncomputable abbrev HU:Kx:=fx cfg 0 [.t 6,.t 7]
theorem e_bb:Oe cfg Pt 3 [.t 6,.t 7] Vv:=fun _ _ _=>ab (fn:=jC) rfl rfl _ _ _
theorem o_bb (x0 x1 x2:D):Of HU Pt [.d x0,.d x1,.d x2] Vv:=e_bb 0 _ _ rfl rfl
noncomputable abbrev II:Kx:=fx cfg 0 []
theorem e_ce:Oe cfg FY 4 [] Gc:=fun _ _ _=>ab (fn:=iH) rfl rfl _ _ _
noncomputable abbrev X_d9:Kx:=fx cfg 0 [.t 2]
theorem e_d9:Oe cfg G9 1 [.t 2] Yp:=fun _ _ _=>ab (fn:=gR) rfl rfl _ _ _
theorem o_d9 (x0:D):Of X_d9 G9 [.d x0] Yp:=e_d9 0 _ _ rfl rfl
noncomputable abbrev WO:Kx:=fx cfg 0 [.t 4]
theorem e_b9:Oe cfg Re 2 [.t 4] Y4:=fun _ _ _=>ab (fn:=jE) rfl rfl _ _ _
theorem o_b9 (x0 x1:D):Of WO Re [.d x0,.d x1] Y4:=e_b9 0 _ _ rfl rfl
noncomputable abbrev WJ:Kx:=fx cfg 0 [.t 2]
theorem e_db:Oe cfg RH 1 [.t 2] Yo:=fun _ _ _=>ab (fn:=gP) rfl rfl _ _ _
theorem o_db (x0:D):Of WJ RH [.d x0] Yo:=e_db 0 _ _ rfl rfl
noncomputable abbrev oG:Kx:=fx cfg 0 [.t 4]
theorem e_d6:Oe cfg RK 2 [.t 4] Vs:=fun _ _ _=>ab (fn:=gV) rfl rfl _ _ _
theorem o_d6 (x0 x1:D):Of oG RK [.d x0,.d x1] Vs:=e_d6 0 _ _ rfl rfl
noncomputable abbrev SM:Kx:=fx cfg 0 [.t 4]
noncomputable abbrev SN:Kx:=fx cfg 0 [.t 8]
theorem e_di:Oe cfg GY 4 [.t 8] IC:=fun _ _ _=>ab (fn:=Xr) rfl rfl _ _ _
theorem o_di (x0 x1 x2 x3:D):Of SN GY [.d x0,.d x1,.d x2,.d x3] IC:=e_di 0 _ _ rfl rfl
noncomputable abbrev SQ:Kx:=fx cfg 0 [.t 4]
theorem e_ao:Oe cfg Rn 2 [.t 4] Y8:=fun _ _ _=>ab (fn:=jQ) rfl rfl _ _ _
theorem o_ao (x0 x1:D):Of SQ Rn [.d x0,.d x1] Y8:=e_ao 0 _ _ rfl rfl
noncomputable abbrev ZN:Kx:=fx cfg 0 [.t 2]
theorem e_fh:Oe cfg Q2 1 [.t 2] Vj:=fun _ _ _=>ab (fn:=fM) rfl rfl _ _ _
theorem o_fh (x0:D):Of ZN Q2 [.d x0] Vj:=e_fh 0 _ _ rfl rfl
noncomputable abbrev Eg:Kx:=fx cfg 0 [.t 4]
noncomputable abbrev oC:Kx:=fx cfg 0 [.t 2]
theorem e_dy:Oe cfg Q8 1 [.t 2] Vn:=fun _ _ _=>ab (fn:=fZ) rfl rfl _ _ _
theorem o_dy (x0:D):Of oC Q8 [.d x0] Vn:=e_dy 0 _ _ rfl rfl
noncomputable abbrev X_b8:Kx:=fx cfg 0 [.t 2]
theorem e_b8:Oe cfg EH 1 [.t 2] Y5:=fun _ _ _=>ab (fn:=jF) rfl rfl _ _ _
theorem o_b8 (x0:D):Of X_b8 EH [.d x0] Y5:=e_b8 0 _ _ rfl rfl
noncomputable abbrev Gf:Kx:=fx cfg 0 [.t 6,.t 7]
theorem e_az:Oe cfg Rg 3 [.t 6,.t 7] SF:=fun _ _ _=>ab (fn:=jI) rfl rfl _ _ _
theorem o_az (x0 x1 x2:D):Of Gf Rg [.d x0,.d x1,.d x2] SF:=e_az 0 _ _ rfl rfl
noncomputable abbrev Fz:Kx:=fx cfg 0 []
theorem e_br:Oe cfg FZ 3 [] FK:=fun _ _ _=>ab (fn:=iR) rfl rfl _ _ _
noncomputable abbrev WN:Kx:=fx cfg 0 []
theorem e_c8:Oe cfg RW 2 [] Yy:=fun _ _ _=>ab (fn:=iL) rfl rfl _ _ _
noncomputable abbrev EP:Kx:=fx cfg 0 [.t 2]
theorem e_ak:Oe cfg Pu 1 [.t 2] ZA:=fun _ _ _=>ab (fn:=jS) rfl rfl _ _ _
theorem o_ak (x0:D):Of EP Pu [.d x0] ZA:=e_ak 0 _ _ rfl rfl
noncomputable abbrev SO:Kx:=fx cfg 0 [.t 2]
theorem e_cz:Oe cfg RL 1 [.t 2] Ys:=fun _ _ _=>ab (fn:=gW) rfl rfl _ _ _
theorem o_cz (x0:D):Of SO RL [.d x0] Ys:=e_cz 0 _ _ rfl rfl
noncomputable abbrev oD:Kx:=fx cfg 0 [.t 2]
theorem e_du:Oe cfg Po 1 [.t 2] Vo:=fun _ _ _=>ab (fn:=gC) rfl rfl _ _ _
theorem o_du (x0:D):Of oD Po [.d x0] Vo:=e_du 0 _ _ rfl rfl
noncomputable abbrev SP:Kx:=fx cfg 0 [.t 4]
theorem e_aw:Oe cfg Rk 2 [.t 4] Y7:=fun _ _ _=>ab (fn:=jL) rfl rfl _ _ _
theorem o_aw (x0 x1:D):Of SP Rk [.d x0,.d x1] Y7:=e_aw 0 _ _ rfl rfl
noncomputable abbrev oH:Kx:=fx cfg 0 [.t 4]
theorem e_cx:Oe cfg RN 2 [.t 4] Vt:=fun _ _ _=>ab (fn:=gY) rfl rfl _ _ _
theorem o_cx (x0 x1:D):Of oH RN [.d x0,.d x1] Vt:=e_cx 0 _ _ rfl rfl
noncomputable abbrev X_f6:Kx:=fx cfg 0 [.t 2]
theorem e_f6:Oe cfg Q3 1 [.t 2] YX:=fun _ _ _=>ab (fn:=fO) rfl rfl _ _ _
theorem o_f6 (x0:D):Of X_f6 Q3 [.d x0] YX:=e_f6 0 _ _ rfl rfl
noncomputable abbrev X_dh:Kx:=fx cfg 0 [.t 2]
theorem e_dh:Oe cfg Hq 1 [.t 2] Ym:=fun _ _ _=>ab (fn:=gK) rfl rfl _ _ _
theorem o_dh (x0:D):Of X_dh Hq [.d x0] Ym:=e_dh 0 _ _ rfl rfl
noncomputable abbrev Gg:Kx:=fx cfg 0 [.cell 8 (some 2),.t 9,.t 10]
theorem e_ag:Oe cfg Pw 4 [.cell 8 (some 2),.t 9,.t 10] IE:=fun _ _ _=>ab (fn:=jW) rfl rfl _ _ _
theorem UJ (x0 x1 x2 x3:D):Of Gg Pw [.d x0,.d x1,.d x2,.d x3] IE:=e_ag 0 _ _ rfl rfl
noncomputable abbrev X_eh:Kx:=fx cfg 0 [.cell 2 (some 5)]
theorem e_eh:Oe cfg Pm 1 [.cell 2 (some 5)] Ya:=fun _ _ _=>ab (fn:=fS) rfl rfl _ _ _
theorem o_eh (x0:D):Of X_eh Pm [.d x0] Ya:=e_eh 0 _ _ rfl rfl
noncomputable abbrev X_cc:Kx:=fx cfg 0 [.t 2]
theorem e_cc:Oe cfg RV 1 [.t 2] Yx:=fun _ _ _=>ab (fn:=iJ) rfl rfl _ _ _
theorem o_cc (x0:D):Of X_cc RV [.d x0] Yx:=e_cc 0 _ _ rfl rfl
noncomputable abbrev Fg:Kx:=fx cfg 0 [.t 8]
theorem YJ:Oe cfg Hu 4 [.t 8] SE:=fun _ _ _=>ab (fn:=jD) rfl rfl _ _ _
noncomputable abbrev EO:Kx:=fx cfg 0 [.t 2]
theorem e_ap:Oe cfg Rm 1 [.t 2] D3:=fun _ _ _=>ab (fn:=jP) rfl rfl _ _ _
theorem o_ap (x0:D):Of EO Rm [.d x0] D3:=e_ap 0 _ _ rfl rfl
noncomputable abbrev IK:Kx:=fx cfg 0 [.t 6]
theorem e_bq:Oe cfg Hs 3 [.t 6] Gd:=fun _ _ _=>ab (fn:=iS) rfl rfl _ _ _
noncomputable abbrev X_ew:Kx:=fx cfg 0 [.t 2]
theorem e_ew:Oe cfg Q4 1 [.t 2] YY:=fun _ _ _=>ab (fn:=fP) rfl rfl _ _ _
theorem o_ew (x0:D):Of X_ew Q4 [.d x0] YY:=e_ew 0 _ _ rfl rfl
noncomputable abbrev X_dq:Kx:=fx cfg 0 [.t 2]
theorem e_dq:Oe cfg RC 1 [.t 2] Yh:=fun _ _ _=>ab (fn:=gF) rfl rfl _ _ _
theorem o_dq (x0:D):Of X_dq RC [.d x0] Yh:=e_dq 0 _ _ rfl rfl
noncomputable abbrev FP:Kx:=fx cfg 0 [.t 6]
theorem e_ac:Oe cfg Rs 3 [.t 6] QF:=fun _ _ _=>ab (fn:=jZ) rfl rfl _ _ _
theorem o_ac (x0 x1 x2:D):Of FP Rs [.d x0,.d x1,.d x2] QF:=e_ac 0 _ _ rfl rfl
@[go_sem] theorem u_ce:Uc cfg FY:=uc rfl
@[go_sem] theorem u_br:Uc cfg FZ:=uc rfl
@[go_sem] theorem u_bk:Uc cfg UU:=uc rfl
@[go_sem] theorem u_cu:Uc cfg RP:=uc rfl
@[go_sem] theorem u_fm:Uc cfg Q1:=uc rfl
@[go_sem] theorem u_ij:Uc cfg n_ij:=uc rfl
@[go_sem] theorem u_cy:Uc cfg RM:=uc rfl
@[go_sem] theorem u_ak:Uc cfg Pu:=uc rfl
@[go_sem] theorem u_c8:Uc cfg RW:=uc rfl
@[go_sem] theorem u_gm:Uc cfg Qz:=uc rfl
@[go_sem] theorem u_gh:Uc cfg Q0:=uc rfl
@[go_sem] theorem u_ee:Uc cfg G5:=uc rfl
@[go_sem] theorem u_av:Uc cfg Rl:=uc rfl
@[go_sem] theorem u_az:Uc cfg Rg:=uc rfl
@[go_sem] theorem u_d6:Uc cfg RK:=uc rfl
@[go_sem] theorem u_ft:Uc cfg Xe:=uc rfl
@[go_sem] theorem u_dh:Uc cfg Hq:=uc rfl
@[go_sem] theorem u_ag:Uc cfg Pw:=uc rfl
@[go_sem] theorem u_d9:Uc cfg G9:=uc rfl
@[go_sem] theorem u_d7:Uc cfg GZ:=uc rfl
@[go_sem] theorem u_db:Uc cfg RH:=uc rfl
@[go_sem] theorem u_ct:Uc cfg RQ:=uc rfl
@[go_sem] theorem u_b9:Uc cfg Re:=uc rfl
@[go_sem] theorem u_c7:Uc cfg RX:=uc rfl
@[go_sem] theorem u_df:Uc cfg Pp:=uc rfl
@[go_sem] theorem u_bu:Uc cfg RZ:=uc rfl
@[go_sem] theorem u_e9:Uc cfg Q6:=uc rfl
@[go_sem] theorem u_gw:Uc cfg Qy:=uc rfl
@[go_sem] theorem u_du:Uc cfg Po:=uc rfl
@[go_sem] theorem u_cz:Uc cfg RL:=uc rfl
@[go_sem] theorem u_f6:Uc cfg Q3:=uc rfl
@[go_sem] theorem u_dr:Uc cfg RB:=uc rfl
@[go_sem] theorem u_au:Uc cfg HD:=uc rfl
@[go_sem] theorem u_dm:Uc cfg RE:=uc rfl
@[go_sem] theorem u_bh:Uc cfg HB:=uc rfl
@[go_sem] theorem u_bm:Uc cfg Rb:=uc rfl
@[go_sem] theorem u_eh:Uc cfg Pm:=uc rfl
@[go_sem] theorem u_ac:Uc cfg Rs:=uc rfl
@[go_sem] theorem u_ep:Uc cfg Q5:=uc rfl
@[go_sem] theorem u_gq:Uc cfg Xd:=uc rfl
@[go_sem] theorem u_dn:Uc cfg RD:=uc rfl
@[go_sem] theorem u_cf:Uc cfg RU:=uc rfl
@[go_sem] theorem u_dg:Uc cfg RG:=uc rfl
@[go_sem] theorem u_dw:Uc cfg RA:=uc rfl
@[go_sem] theorem u_dj:Uc cfg UT:=uc rfl
@[go_sem] theorem u_d8:Uc cfg RJ:=uc rfl
@[go_sem] theorem u_aq:Uc cfg HF:=uc rfl
@[go_sem] theorem u_ab:Uc cfg Rt:=uc rfl
@[go_sem] theorem u_ae:Uc cfg Hv:=uc rfl
@[go_sem] theorem u_cr:Uc cfg RR:=uc rfl
@[go_sem] theorem u_ah:Uc cfg Pv:=uc rfl
@[go_sem] theorem u_bw:Uc cfg RY:=uc rfl
@[go_sem] theorem u_dx:Uc cfg Q9:=uc rfl
@[go_sem] theorem u_gd:Uc cfg Hl:=uc rfl
@[go_sem] theorem u_b7:Uc cfg Rf:=uc rfl
@[go_sem] theorem u_bb:Uc cfg Pt:=uc rfl
@[go_sem] theorem u_ai:Uc cfg Rq:=uc rfl
@[go_sem] theorem u_bg:Uc cfg Rc:=uc rfl
@[go_sem] theorem u_da:Uc cfg RI:=uc rfl
@[go_sem] theorem u_bc:Uc cfg Ps:=uc rfl
@[go_sem] theorem u_de:Uc cfg G8:=uc rfl
@[go_sem] theorem u_eb:Uc cfg G6:=uc rfl
@[go_sem] theorem u_ej:Uc cfg Hp:=uc rfl
@[go_sem] theorem u_cw:Uc cfg RO:=uc rfl
@[go_sem] theorem u_fw:Uc cfg Ph:=uc rfl
@[go_sem] theorem u_bz:Uc cfg Hr:=uc rfl
@[go_sem] theorem u_ax:Uc cfg Rj:=uc rfl
@[go_sem] theorem u_dz:Uc cfg Q7:=uc rfl
@[go_sem] theorem u_dy:Uc cfg Q8:=uc rfl
@[go_sem] theorem u_b6:Uc cfg UW:=uc rfl
@[go_sem] theorem u_fh:Uc cfg Q2:=uc rfl
@[go_sem] theorem u_di:Uc cfg GY:=uc rfl
@[go_sem] theorem u_dl:Uc cfg RF:=uc rfl
@[go_sem] theorem u_gz:Uc cfg Qw:=uc rfl
@[go_sem] theorem u_fy:Uc cfg Ho:=uc rfl
@[go_sem] theorem u_ay:Uc cfg Rh:=uc rfl
@[go_sem] theorem u_c9:Uc cfg GG:=uc rfl
@[go_sem] theorem u_ef:Uc cfg GX:=uc rfl
@[go_sem] theorem u_fz:Uc cfg G4:=uc rfl
@[go_sem] theorem u_g9:Uc cfg US:=uc rfl
@[go_sem] theorem u_ig:Uc cfg UR:=uc rfl
@[go_sem] theorem u_bp:Uc cfg Pr:=uc rfl
@[go_sem] theorem u_af:Uc cfg Rr:=uc rfl
@[go_sem] theorem u_dt:Uc cfg G7:=uc rfl
@[go_sem] theorem u_bn:Uc cfg Ht:=uc rfl
@[go_sem] theorem u_cn:Uc cfg RS:=uc rfl
@[go_sem] theorem u_fg:Uc cfg Pl:=uc rfl
@[go_sem] theorem u_ed:Uc cfg Pn:=uc rfl
@[go_sem] theorem u_aa:Uc cfg Ru:=uc rfl
@[go_sem] theorem u_fu:Uc cfg Pj:=uc rfl
@[go_sem] theorem u_fo:Uc cfg Pk:=uc rfl
@[go_sem] theorem u_gr:Uk cfg n_gr:=uk rfl
@[go_sem] theorem u_f7:Uk cfg FX:=uk rfl
@[go_sem] theorem u_gj:Uk cfg n_gj:=uk rfl
@[go_sem] theorem u_gu:Uk cfg n_gu:=uk rfl
@[go_sem] theorem u_gy:Uk cfg n_gy:=uk rfl
@[go_sem] theorem u_gp:Uk cfg n_gp:=uk rfl
@[go_sem] theorem u_gk:Uk cfg n_gk:=uk rfl
@[go_sem] theorem u_b8:Uc cfg EH:=uc rfl
@[go_sem] theorem u_cc:Uc cfg RV:=uc rfl
@[go_sem] theorem u_cg:Uc cfg Pq:=uc rfl
@[go_sem] theorem u_cx:Uc cfg RN:=uc rfl
@[go_sem] theorem u_ao:Uc cfg Rn:=uc rfl
@[go_sem] theorem u_am:Uc cfg Ro:=uc rfl
@[go_sem] theorem u_aw:Uc cfg Rk:=uc rfl
@[go_sem] theorem u_aj:Uc cfg Rp:=uc rfl
@[go_sem] theorem u_bo:Uc cfg Ra:=uc rfl
@[go_sem] theorem u_ew:Uc cfg Q4:=uc rfl
@[go_sem] theorem u_dq:Uc cfg RC:=uc rfl
@[go_sem] theorem u_ba:Uc cfg Hu:=uc rfl
@[go_sem] theorem u_gx:Uc cfg Qx:=uc rfl
@[go_sem] theorem u_ap:Uc cfg Rm:=uc rfl
@[go_sem] theorem u_bq:Uc cfg Hs:=uc rfl
def bo5:=bs9 LS.eq_1 LR.eq_1 KF.eq_1 r_eb.eq_1 M3.eq_1 M1.eq_1 M0.eq_1 Mz.eq_1
def bo6:=bs9 My.eq_1 Mx.eq_1 Mw.eq_1 bgk.eq_1 am4.eq_1 am3.eq_1 am2.eq_1 am1.eq_1
def bo7:=bs9 am0.eq_1 amz.eq_1 amy.eq_1 La.eq_1 LZ.eq_1 LY.eq_1 LX.eq_1 LW.eq_1
def bo8:=bs9 KQ.eq_1 KP.eq_1 NA.eq_1 M9.eq_1 M8.eq_1 bgu.eq_1 bgt.eq_1 bgs.eq_1
def bo9:=bs9 bgr.eq_1 bgq.eq_1 KI.eq_1 KH.eq_1 KG.eq_1 bd4.eq_1 bd3.eq_1 bd2.eq_1
def bpa:=bs9 bd1.eq_1 bd0.eq_1 KZ.eq_1 KY.eq_1 KX.eq_1 KW.eq_1 KV.eq_1 Jo.eq_1
def bpb:=bs9 Jn.eq_1 Jm.eq_1 Jl.eq_1 bdv.eq_1 bdu.eq_1 bdt.eq_1 bds.eq_1 J2.eq_1
def bpc:=bs9 J1.eq_1 J0.eq_1 Jz.eq_1 Jy.eq_1 Jw.eq_1 Jv.eq_1 Ju.eq_1 Jt.eq_1
def bpd:=bs9 Js.eq_1 OO.eq_1 ON.eq_1 OM.eq_1 bik.eq_1 bij.eq_1 bih.eq_1 big.eq_1
def bpe:=bs9 an7.eq_1 bdr.eq_1 NO.eq_1 NN.eq_1 NM.eq_1 NL.eq_1 bg0.eq_1 bgz.eq_1
def bpf:=bs9 bgy.eq_1 bgx.eq_1 bgv.eq_1 am7.eq_1 am5.eq_1 yf.eq_1 ye.eq_1 yd.eq_1
def bpg:=bs9 yc.eq_1 JR.eq_1 JQ.eq_1 JP.eq_1 JO.eq_1 JN.eq_1 JM.eq_1 JL.eq_1
def bph:=bs9 ND.eq_1 NC.eq_1 NB.eq_1 NW.eq_1 NU.eq_1 NT.eq_1 NS.eq_1 NR.eq_1
def bpi:=bs9 NQ.eq_1 NP.eq_1 bg1.eq_1 ane.eq_1 anc.eq_1 anb.eq_1 ana.eq_1 am8.eq_1
def bpj:=bs9 L9.eq_1 L8.eq_1 L7.eq_1 L6.eq_1 Lh.eq_1 bez.eq_1 bey.eq_1 bex.eq_1
def bpk:=bs9 OT.eq_1 r_c8.eq_1 OS.eq_1 OR.eq_1 biv.eq_1 biu.eq_1 bir.eq_1 a6p.eq_1
def bpl:=bs9 yl.eq_1 yi.eq_1 yh.eq_1 yg.eq_1 Kc.eq_1 Kb.eq_1 Ka.eq_1 bea.eq_1
def bpm:=bs9 bd9.eq_1 bd8.eq_1 bd6.eq_1 bd5.eq_1 JY.eq_1 JX.eq_1 JW.eq_1 Np.eq_1
def bpn:=bs9 Nn.eq_1 bhm.eq_1 bhl.eq_1 bhk.eq_1 bhj.eq_1 bhi.eq_1 bhh.eq_1 Kq.eq_1
def bpo:=bs9 Ko.eq_1 Io.eq_1 Im.eq_1 J6.eq_1 J5.eq_1 TV.eq_1 TU.eq_1 J4.eq_1
def bpp:=bs9 J3.eq_1 O3.eq_1 r_d9.eq_1 r_d7.eq_1 O2.eq_1 O1.eq_1 O0.eq_1 Oz.eq_1
def bpq:=bs9 Oy.eq_1 Ox.eq_1 bjp.eq_1 bjo.eq_1 bjn.eq_1 bjm.eq_1 bjl.eq_1 bjk.eq_1
def bpr:=bs9 bjj.eq_1 bji.eq_1 bjh.eq_1 bjg.eq_1 bjf.eq_1 bje.eq_1 bjd.eq_1 ao2.eq_1
def bps:=bs9 ao1.eq_1 ao0.eq_1 aoz.eq_1 ym.eq_1 aoy.eq_1 aox.eq_1 aow.eq_1 aov.eq_1
def bpt:=bs9 aou.eq_1 aot.eq_1 aos.eq_1 aor.eq_1 aoq.eq_1 aop.eq_1 I3.eq_1 Iz.eq_1
def bpu:=bs9 Ld.eq_1 Lc.eq_1 Lb.eq_1 M7.eq_1 M6.eq_1 M5.eq_1 M4.eq_1 bgp.eq_1
def bpv:=bs9 bgo.eq_1 bgn.eq_1 bgm.eq_1 bgl.eq_1 se.eq_1 sd.eq_1 OL.eq_1 OJ.eq_1
def bpw:=bs9 OI.eq_1 OH.eq_1 OG.eq_1 OE.eq_1 OD.eq_1 OC.eq_1 OB.eq_1 OA.eq_1
def bpx:=bs9 bie.eq_1 bid.eq_1 bib.eq_1 bia.eq_1 bh9.eq_1 bh8.eq_1 bh7.eq_1 bh6.eq_1
def bpy:=bs9 bh5.eq_1 bh4.eq_1 bh3.eq_1 bh2.eq_1 bh1.eq_1 bh0.eq_1 MI.eq_1 MH.eq_1
def bpz:=bs9 MG.eq_1 MF.eq_1 ME.eq_1 MD.eq_1 MC.eq_1 MB.eq_1 MA.eq_1 bfj.eq_1
def bp0:=bs9 ami.eq_1 amh.eq_1 amg.eq_1 amf.eq_1 ame.eq_1 amd.eq_1 Ir.eq_1 Iq.eq_1
def bp1:=bs9 Ip.eq_1 Jg.eq_1 Jf.eq_1 Je.eq_1 PS.eq_1 PR.eq_1 PQ.eq_1 PO.eq_1
def bp2:=bs9 PN.eq_1 PM.eq_1 PL.eq_1 PK.eq_1 PJ.eq_1 bkb.eq_1 apt.eq_1 apq.eq_1
def bp3:=btc app.eq_1
def bp4:=btc apo.eq_1
def bp5:=btc apm.eq_1
def bp6:=btc yr.eq_1
def bp7:=btc yp.eq_1
attribute [go_sem] boi boj bok bol bom bon boo bop boq bos bot bou bov bow boy boz bo0 bo1 bo2 bo3 bo4 bo5 bo6 bo7 bo8 bo9 bpa bpb bpc bpd bpe bpf bpg bph bpi bpj bpk bpl bpm bpn bpo bpp bpq bpr bps bpt bpu bpv bpw bpx bpy bpz bp0 bp1 bp2 bp3 bp4 bp5 bp6 bp7
