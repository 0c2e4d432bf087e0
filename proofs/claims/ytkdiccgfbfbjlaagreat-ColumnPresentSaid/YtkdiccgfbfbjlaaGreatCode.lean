import Derived.Test.YtkdiccgfbfbjlaaGreatOrc
import Derived.Test.YtkdiccgfbfbjlaaGreatChecked
import Derived.Test.YtkdiccgfbfbjlaaGreatCodeA
namespace Go.Proofs.YtkdiccgfbfbjlaaGreat
set_option linter.defProp false
open Go.Ev Go
variable {X:Kx} {K:List Kf} {s:St}
def r_b4_0:=rg [
oo 2 (.asg (.c .nilS))] [0]
def r_b4_1:=rg [
a3r 5 0,a3o 6 false 5,a3e 7 .gtr 6 1048576] [0,7]
@[go_sem] def r_b4_2_o:Ops:=[
oo 2 (.asg (.c .nilS))]
def r_b4_2:=rg r_b4_2_o [2]
def r_b4_3:=rg [
oo 8 (.call true n_dg []),a3r 9 0,oo 10 (.callg false n_ax [(.t 8),(.t 9)] 0),a3x 3 10] [0,3]
def r_b4_4:=rg [
a3r 11 0,oo 12 (.callg false n_bv [(.c .nilS),(.t 11),(ci 0),(ci 0)] 0),a3x 4 12] [3,4]
def r_b4_5:=rg [
a3r 13 4,a3o 14 false 13,a3r 15 3,a3o 16 false 15,a3f 17 .lss 14 16] [3,4,17]
def r_b4_6:=rg [
a3r 18 4,a3x 3 18] [3]
def r_b4_7:=rg [
a3r 19 3,a3g 20 n_c8 [(.t 19)],a3x 2 20] [2]
def c_b4:ICode:=(.seq r_b4_0 (.seq r_b4_1 (.cond (.t 7) (.seq r_b4_2 .ret) (.seq r_b4_3 (.seq (.seq r_b4_4 (.seq r_b4_5 (.cond (.t 17) r_b4_6 .skip))) (.seq r_b4_7 .ret))))))
def i_b4:IFunc:=⟨1,[.t 2],c_b4⟩
def a_b4:Advice:=⟨[8],zzz 7 [r_b4_7,r_b4_6,r_b4_5,r_b4_4,r_b4_3,.ret,r_b4_1,r_b4_0]++[(2,[2])],[],[],[(10,0),(12,0)],[]⟩
def r_az_0:=rg [
oo 2 (.asg (.c .nilS))] [0]
def r_az_1:=rg [
a3r 3 0,oo 4 (.isNil false (.t 3))] [0,4]
@[go_sem] def r_az_2_o:Ops:=[
oo 2 (.asg (.c .nilS))]
def r_az_2:=rg r_az_2_o [2]
def r_az_3:=rg [
oo 5 (.lit true 1 0 (.int .u8 0) []),a3r 6 0,oo 7 (.append 1 1 (.t 5) (.t 6)),a3x 2 7] [2]
def c_az:ICode:=(.seq r_az_0 (.seq r_az_1 (.cond (.t 4) (.seq r_az_2 .ret) (.seq r_az_3 .ret))))
def i_az:IFunc:=⟨1,[.t 2],c_az⟩
def a_az:Advice:=⟨[5],zzz 3 [r_az_3,.ret,r_az_1,r_az_0]++[(2,[2])],[],[],[],[]⟩
@[go_sem] def r_cn_0_o:Ops:=[
a3c 2 false]
def r_cn_0:=rg r_cn_0_o [0]
@[go_sem] def r_cn_1_o:Ops:=[
a3r 3 0]
def r_cn_1:=rg r_cn_1_o [3]
@[go_sem] def r_cn_2_o:Ops:=[
a3e 5 .eql 3 0,a3x 4 5]
def r_cn_2:=rg r_cn_2_o [3,4]
@[go_sem] def r_cn_3_o:Ops:=[
a3e 7 .eql 3 4,a3x 6 7]
def r_cn_3:=rg r_cn_3_o [6]
@[go_sem] def r_cn_4_o:Ops:=[
a3c 2 true]
def r_cn_4:=rg r_cn_4_o [2]
@[go_sem] def r_cn_5_o:Ops:=[
a3c 2 false]
def r_cn_5:=rg r_cn_5_o [2]
def c_cn:ICode:=(.seq r_cn_0 (.seq (.seq r_cn_1 (.block 0 (.seq (.block 2 (.block 1 (.seq (.seq (.seq r_cn_2 (.cond (.t 4) (.exit 1) .skip)) (.seq r_cn_3 (.cond (.t 6) (.exit 2) .skip))) (.exit 0)))) (.seq (.seq r_cn_4 .ret) (.exit 0))))) (.seq r_cn_5 .ret)))
def i_cn:IFunc:=⟨1,[.t 2],c_cn⟩
def a_cn:=zzy ([(5,[2]),(4,[2]),(3,[6]),(2,[3,4]),(1,[3]),(0,[0])])
def r_am_0:=rg [
oo 6 (.asg (.c .nilS)),a3d 7 0] [0,1,2]
def r_am_1:=rg [
a3r 13 1,a3g 14 n_cn [(.t 13)],a3t 15 14,a3x 12 15] [0,1,2,12]
@[go_sem] def r_am_2_o:Ops:=[
oo 6 (.asg (.c .nilS)),a3d 7 7]
def r_am_2:=rg r_am_2_o [6,7]
def r_am_3:=rg [
a3r 17 2,a3e 18 .lss 17 1,a3r 19 18,a3j 20 19 false 2,og 21 19 false (.bin .gtr (.t 20) (ci 65536)),a3v 22 19 21,a3x 16 22] [0,1,2,16]
@[go_sem] def r_am_4_o:Ops:=[
oo 6 (.asg (.c .nilS)),a3d 7 1]
def r_am_4:=rg r_am_4_o [6,7]
def r_am_5:=rg [
a3r 24 1,a3e 25 .eql 24 0,a3x 23 25] [0,2,23]
def r_am_6:=rg [
a3r 26 0,a3g 27 n_az [(.t 26)],a3g 28 n_c8 [(.t 27)],a3x 6 28,a3d 7 0] [6,7]
def r_am_7:=rg [
oo 8 (.alloc [.nilS])] [0,2,8]
def r_am_8:=rg [
a3r 29 0,a3r 30 2,a3g 31 n_cu [(.t 29),(.t 30)]] [8,31]
def avw:=rg [
a3x 9 32] [8,9]
def ae7:ICode:=avw
def a0o:=a3k ae7.eq_1
def acs:=rg [
a3r 33 9,a3g 34 n_b4 [(.t 33)],a3x 10 34] [8,9,10]
def acr:=rg [
a3r 35 10,a3o 36 false 35,a3r 37 9,a3o 38 false 37,a3f 39 .geq 36 38,a3x 11 39] [8,9,10,11]
def acq:=rg [
a3r 40 11] [8,9,10,11,40]
def acp:=rg [
a3r 41 9,a3x 10 41] [8,10,11]
@[go_sem] def wz:Ops:=[
a3p 42 8,a3r 43 10,a3o 44 false 43,a3r 45 11,a3g 46 n_b6 [(.t 44),(.t 45)],oo 47 (.append 1 1 (.t 42) (.t 46)),a3r 48 10,oo 49 (.append 1 1 (.t 47) (.t 48)),a3w 1 8 49]
def w6:List (Nat×Nat):=[(0,1),(0,2),(0,3),(1,3),(2,3),(0,4),(0,6),(1,6),(2,6),(3,6),(4,6),(5,6)]
def aco:ICode:= .region wz w6 []
@[go_sem] theorem r_am_15_u:Gu X K s aco w6 wz []:=go_regionU' _ _ _ _
def ae6:ICode:=(.block 2 (.seq acs (.seq acr (.seq (.seq acq (.cond (.t 40) acp .skip)) aco))))
def a0p:=a3k ae6.eq_1
def acn:=rg [
a3p 50 8,a3g 51 n_c8 [(.t 50)],a3x 6 51,a3d 7 0] [6,7]
def c_am:ICode:=(.seq r_am_0 (.seq (.block 0 (.seq r_am_1 (.cond (.t 12) (.seq r_am_2 .ret) (.seq r_am_3 (.cond (.t 16) (.seq r_am_4 .ret) (.seq r_am_5 (.cond (.t 23) (.seq r_am_6 .ret) .skip))))))) (.seq r_am_7 (.seq (.seq r_am_8 (.block 1 (.each (.t 31) [32] ae7 ae6))) (.seq acn .ret)))))
def i_am:IFunc:=⟨3,[.t 6,.t 7],c_am⟩
def a_am:Advice:=⟨[47,49],zzz 9 [avw,r_am_8,r_am_7,r_am_6,r_am_5,.ret,r_am_3,.ret,r_am_1,r_am_0]++[(15,[6,7]),(14,[]),(13,[8,10,11]),(12,[8,9,10,11,40]),(11,[8,9,10,11]),(10,[8,9,10]),(2,[6,7]),(4,[6,7])],[],[],[],[]⟩
@[go_sem] def ah9:Ops:=[
a3r 9 2,a3r 10 0,a3s 11 10,a3h 12 1 11,a3h 13 0 12,a3p 14 13,a3r 15 0,a3s 16 15,a3h 17 1 16,a3h 18 1 17,a3p 19 18,a3g 20 n_am [(.t 9),(.t 14),(.t 19)],a3r 8 20,a3y 21 8 0,a3y 22 8 1,a3x 6 21,a3x 7 22]
def aia:List (Nat×Nat):=[(0,1),(0,2),(0,3),(0,4),(0,5),(0,6),(1,6),(2,6),(3,6),(4,6),(5,6),(0,7),(1,7),(2,7),(3,7),(4,7),(5,7),(0,8),(1,8),(2,8),(3,8),(4,8),(5,8),(0,9),(1,9),(2,9),(3,9),(4,9),(5,9),(0,10),(1,10),(2,10),(3,10),(4,10),(5,10),(13,14),(14,15)]
def r_bn_0:ICode:= .region ah9 aia [0,1,2,6,7]
@[go_sem] theorem r_bn_0_u:Gu X K s r_bn_0 aia ah9 [0,1,2,6,7]:=go_regionU' _ _ _ _
def r_bn_1:=rg [
a3r 23 2,a3o 24 false 23,a3e 25 .gtr 24 262144] [0,1,6,7,25]
@[go_sem] def r_bn_2_o:Ops:=[
a3d 7 4]
def r_bn_2:=rg r_bn_2_o [0,1,6,7]
def r_bn_3:=rg [
a3r 26 7,a3e 27 .neq 26 0,a3r 28 27,a3j 29 28 true 0,og 30 28 true (.nilck (.t 29)),og 31 28 true (.fieldA 10 (.t 30)),og 32 28 true (.load none (.t 31)),og 33 28 true (.bin .eql (.t 32) (ci 0)),a3u 34 28 33] [0,1,6,7,34]
@[go_sem] def r_bn_4_o:Ops:=[
a3r 35 0,a3r 36 7,a3s 37 35,a3h 38 10 37,a3w 1 38 36]
def r_bn_4:=rg r_bn_4_o [0,1,6]
@[go_sem] def ah5:Ops:=[
a3r 39 0,a3r 40 0,a3s 41 40,a3h 42 9 41,a3p 43 42,a3r 44 1,a3r 45 0,a3s 46 45,a3h 47 0 46,a3p 48 47,a3r 49 6,oo 50 (.build [(.int .i64 0),(.int .i64 0),.nilS] [(0,1,(.t 44)),(1,1,(.t 48)),(2,1,(.t 49))]),oo 51 (.lit false 3 1 (.agg [(.int .i64 0),(.int .i64 0),(.sl [])]) [(0,(.t 50))]),oo 52 (.append 3 40 (.t 43) (.t 51)),a3s 53 39,a3h 54 9 53,a3w 1 54 52]
def ah6:List (Nat×Nat):=[(0,1),(0,2),(0,3),(0,4),(0,5),(1,5),(2,5),(3,5),(4,5),(0,6),(1,6),(2,6),(3,6),(4,6),(5,6),(0,7),(1,7),(2,7),(3,7),(4,7),(5,7),(0,8),(1,8),(2,8),(3,8),(4,8),(5,8),(0,9),(1,9),(2,9),(3,9),(4,9),(5,9),(0,10),(1,10),(2,10),(3,10),(4,10),(5,10),(6,10),(7,10),(8,10),(9,10),(0,11),(1,11),(2,11),(3,11),(4,11),(0,12),(1,12),(2,12),(3,12),(4,12),(0,13)]
def r_bn_5:ICode:= .region ah5 ah6 []
@[go_sem] theorem r_bn_5_u:Gu X K s r_bn_5 ah6 ah5 []:=go_regionU' _ _ _ _
def c_bn:ICode:=(.seq r_bn_0 (.seq (.seq r_bn_1 (.cond (.t 25) r_bn_2 .skip)) (.seq (.seq r_bn_3 (.cond (.t 34) r_bn_4 .skip)) r_bn_5)))
def i_bn:IFunc:=⟨3,[],c_bn⟩
def a_bn:Advice:=⟨[52],zzz 3 [r_bn_3,.ret,r_bn_1]++[(5,[]),(4,[0,1,6]),(2,[0,1,6,7]),(0,[0,1,2,6,7])],[],[],[],[]⟩
def r_bp_0:=rg [
a3p 3 0,a3g 4 n_cu [(.t 3),(ci 128)]] [0,1,4]
def aub:=rg [
a3x 2 5] [1,2]
def az8:ICode:=aub
def a0q:=a3k az8.eq_1
def aua:=rg [
a3p 6 1,a3r 7 2,a3o 8 false 7,oo 9 (.bin .sub (ci 256) (.t 8)),oo 10 (.cvInt .u8 (.t 9)),oo 11 (.lit false 1 1 (.int .u8 0) [(0,(.t 10))]),oo 12 (.append 1 1 (.t 6) (.t 11)),a3r 13 2,oo 14 (.append 1 1 (.t 12) (.t 13)),a3w 1 1 14] []
def az7:ICode:=(.block 1 aua)
def a0r:=a3k az7.eq_1
def at9:=rg [
ow (.store 1 (.t 0) (.c .nilS))] []
def c_bp:ICode:=(.seq (.seq (.seq (.give [0]) r_bp_0) (.block 0 (.each (.t 4) [5] az8 az7))) at9)
def i_bp:IFunc:=⟨2,[],c_bp⟩
def a_bp:Advice:=⟨[12,14],zzz 3 [aua,.ret,aub,r_bp_0]++[(2,[])],[],[],[],[(0,[0])]⟩
def r_af_0:=rg [
oo 2 (.asg (.c .nilS))] [0]
def r_bp:=rg [
oo 3 (.alloc [.nilS]),oo 4 (.alloc [.nilS])] [0,3,4]
def r_af_2:=rg [
oo 8 (.mkF n_bp [] [(.t 4),(.t 3)]),a3x 5 8] [0,3,4,5]
def r_af_3:=rg [
a3d 6 0] [0,3,4,5,6]
def awv:=rg [
a3r 9 6,a3r 10 0,a3o 11 false 10,a3f 12 .lss 9 11] [0,3,4,5,6,12]
def awu:=rg [
a3d 7 1] [0,3,4,5,6,7]
@[go_sem] def aob:Ops:=[
a3r 13 6,a3r 14 7,a3f 15 .add 13 14,a3r 16 0,a3o 17 false 16,a3f 18 .lss 15 17,a3r 19 18,a3j 20 19 true 7,og 21 19 true (.bin .lss (.t 20) (ci 130)),a3u 22 19 21,a3r 23 22,a3j 24 23 true 0,a3j 25 23 true 6,a3j 26 23 true 7,og 27 23 true (.bin .add (.t 25) (.t 26)),og 28 23 true (.idxA 1 (.t 24) (.t 27)),og 29 23 true (.load none (.t 28)),a3j 30 23 true 0,a3j 31 23 true 6,og 32 23 true (.idxA 1 (.t 30) (.t 31)),og 33 23 true (.load none (.t 32)),og 34 23 true (.bin .eql (.t 29) (.t 33)),a3u 35 23 34]
def aoc:List (Nat×Nat):=[(0,1),(0,3),(1,3),(2,3),(0,4),(1,4),(2,4),(11,12),(11,13),(12,13),(11,14),(11,17),(12,17),(13,17),(14,17),(15,17),(16,17),(11,18),(12,18),(13,18),(14,18),(15,18),(16,18),(17,18),(11,19),(12,19),(13,19),(14,19),(15,19),(16,19),(11,20),(12,20),(13,20),(14,20),(15,20),(16,20)]
def awt:ICode:= .region aob aoc [0,3,4,5,6,7,35]
@[go_sem] theorem r_af_6_u:Gu X K s awt aoc aob [0,3,4,5,6,7,35]:=go_regionU' _ _ _ _
def aws:=rg [
a3r 36 7,a3e 37 .add 36 1,a3x 7 37] [0,3,4,5,6,7]
def aqc:ICode:=(.seq (.seq awt (.cond (.t 35) .skip (.exit 2))) (.block 3 aws))
def a0s:=a3k aqc.eq_1
def an9:=rg [
a3r 38 7,a3e 39 .geq 38 3] [0,3,4,5,6,7,39]
def sd:=rg [
a3r 40 5,oo 41 (.callv false (.t 40) [])] [0,3,4,5,6,7]
@[go_sem] def x5:Ops:=[
a3p 42 3,a3r 43 7,a3e 44 .sub 43 3,oo 45 (.cvInt .u8 (.t 44)),a3r 46 0,a3r 47 6,a3m 48 1 46 47,a3p 49 48,oo 50 (.lit false 1 2 (.int .u8 0) [(0,(.t 45)),(1,(.t 49))]),oo 51 (.append 1 1 (.t 42) (.t 50)),a3w 1 3 51]
def x6:List (Nat×Nat):=[(0,1),(0,2),(0,3),(0,4),(1,4),(2,4),(3,4),(0,5),(1,5),(2,5),(3,5),(4,5),(0,6),(1,6),(2,6),(3,6),(0,7),(1,7),(2,7),(3,7),(0,8)]
def sc:ICode:= .region x5 x6 [0,3,4,5,6,7]
@[go_sem] theorem r_af_11_u:Gu X K s sc x6 x5 [0,3,4,5,6,7]:=go_regionU' _ _ _ _
@[go_sem] def xy:Ops:=[
a3p 52 4,a3r 53 0,a3r 54 6,a3r 55 6,a3r 56 7,a3f 57 .add 55 56,oo 58 (.slice 1 (.t 53) (some (.t 54)) (some (.t 57)) none),oo 59 (.append 1 1 (.t 52) (.t 58)),a3w 1 4 59]
def xz:List (Nat×Nat):=[(0,1),(0,2),(1,2),(0,3),(1,3),(2,3),(0,4),(1,4),(2,4),(3,4),(0,5),(1,5),(2,5),(0,6)]
def sb:ICode:= .region xy xz [0,3,4,5,6,7]
@[go_sem] theorem r_af_12_u:Gu X K s sb xz xy [0,3,4,5,6,7]:=go_regionU' _ _ _ _
def sa:=rg [
a3r 60 6,a3r 61 7,a3f 62 .add 60 61,a3x 6 62] [0,3,4,5,6]
def tq:ICode:=(.seq (.seq awv (.cond (.t 12) .skip (.exit 0))) (.block 1 (.seq awu (.seq (.block 2 (.loop aqc)) (.seq (.seq an9 (.cond (.t 39) (.seq sd sc) sb)) sa)))))
def a0t:=a3k tq.eq_1
def r9:=rg [
a3r 63 5,oo 64 (.callv false (.t 63) [])] [3]
def r8:=rg [
a3p 65 3,a3g 66 n_c8 [(.t 65)],a3x 2 66] [2]
def c_af:ICode:=(.seq r_af_0 (.seq r_bp (.seq r_af_2 (.seq (.seq r_af_3 (.block 0 (.loop tq))) (.seq r9 (.seq r8 .ret))))))
def i_af:IFunc:=⟨1,[.t 2],c_af⟩
def a_af:Advice:=⟨[51,59],zzz 10 [sd,.ret,.ret,aws,.ret,awu,awv,r_af_3,r_af_2,.ret,r_af_0]++[(14,[2]),(13,[3]),(12,[0,3,4,5,6]),(9,[0,3,4,5,6,7]),(11,[0,3,4,5,6,7]),(8,[0,3,4,5,6,7,39]),(6,[0,3,4,5,6,7,35]),(1,[0,3,4])],[],[],[],[]⟩
def r_bo_0:=rg [
oo 2 (.asg (.c .nilS))] [0]
def r_bo_1:=rg [
a3r 6 0,a3o 7 false 6,a3e 8 .add 7 7,a3e 9 .quo 8 8,oo 10 (.mkS 1 1 (.int .u8 0) (.t 9) (.t 9)),a3x 3 10] [0,3]
def r_bo_2:=rg [
a3r 11 0,a3o 12 false 11,oo 13 (.mv (ci 0))] [3,11,12,13]
def auh:=rg [
a3f 14 .lss 13 12] [3,11,12,13,14]
def aug:=rg [
a3r 15 13,a3m 16 1 11 13,a3p 17 16,a3x 4 15,a3x 5 17] [3,4,5,11,12,13]
def auf:=rg [
a3r 18 5] [3,4,11,12,13,18]
@[go_sem] def ahx:Ops:=[
a3r 19 3,a3r 20 4,a3e 21 .quo 20 8,a3m 22 1 19 21,a3p 23 22,a3r 24 4,a3e 25 .rem 24 8,oo 26 (.bin .shr (.c (.int .u8 128)) (.t 25)),a3f 27 .or 23 26,a3m 28 1 19 21,a3w 1 28 27]
def ahy:List (Nat×Nat):=[(0,1),(0,2),(0,5),(1,5),(2,5),(3,5),(4,5),(0,6),(1,6),(2,6),(3,6),(4,6),(0,7),(1,7),(2,7),(3,7),(4,7)]
def aue:ICode:= .region ahx ahy [3,11,12,13]
@[go_sem] theorem r_bo_6_u:Gu X K s aue ahy ahx [3,11,12,13]:=go_regionU' _ _ _ _
def aud:=rg [
a3e 29 .add 13 1,a3r 13 29] [3,11,12,13]
def az9:ICode:=(.seq auh (.seq (.cond (.t 14) .skip (.exit 0)) (.seq (.block 1 (.seq aug (.seq auf (.cond (.t 18) aue .skip)))) aud)))
def a0u:=a3k az9.eq_1
def auc:=rg [
a3r 30 3,a3x 2 30] [2]
def c_bo:ICode:=(.seq r_bo_0 (.seq r_bo_1 (.seq (.seq r_bo_2 (.block 0 (.loop az9))) (.seq auc .ret))))
def i_bo:IFunc:=⟨1,[.t 2],c_bo⟩
def a_bo:=zzy (zzz 7 [aud,.ret,auf,aug,auh,r_bo_2,r_bo_1,r_bo_0]++[(8,[2]),(6,[3,11,12,13])])
def r_bz_0:=rg [
oo 2 (.asg (.c .nilS))] [0]
def r_bz_1:=rg [
a3r 3 0,a3o 4 false 3,a3e 5 .gtr 4 16384] [0,5]
@[go_sem] def r_bz_2_o:Ops:=[
oo 2 (.asg (.c .nilS))]
def r_bz_2:=rg r_bz_2_o [2]
def r_bz_3:=rg [
a3r 6 0,a3g 7 n_bo [(.t 6)],a3g 8 n_af [(.t 7)],a3x 2 8] [2]
def c_bz:ICode:=(.seq r_bz_0 (.seq r_bz_1 (.cond (.t 5) (.seq r_bz_2 .ret) (.seq r_bz_3 .ret))))
def i_bz:IFunc:=⟨1,[.t 2],c_bz⟩
def a_bz:=zzy (zzz 3 [r_bz_3,.ret,r_bz_1,r_bz_0]++[(2,[2])])
def r_ai_0:=rg [
a3d 4 0] [0,1]
def r_ai_1:=rg [
a3r 6 0,a3o 7 false 6,oo 8 (.mv (ci 0))] [0,1,7,8]
def awh:=rg [
a3f 9 .lss 8 7] [0,1,7,8,9]
def awg:=rg [
a3r 10 8,a3x 5 10] [0,1,5,7,8]
def awf:=rg [
a3r 11 1,a3r 12 0,a3r 13 5,a3m 14 1 12 13,a3p 15 14,oo 16 (.eqn false .bool (.t 11) (.t 15))] [0,1,5,7,8,16]
def awe:=rg [
a3r 17 5,a3x 4 17] [4]
def awd:=rg [
a3e 18 .add 8 1,a3r 8 18] [0,1,7,8]
def a0f:ICode:=(.seq awh (.seq (.cond (.t 9) .skip (.exit 0)) (.seq (.block 1 (.seq awg (.seq awf (.cond (.t 16) (.seq awe .ret) .skip)))) awd)))
def a0v:=a3k a0f.eq_1
def awc:=rg [
oo 4 (.asg (ci (-1)))] [4]
def c_ai:ICode:=(.seq r_ai_0 (.seq (.seq r_ai_1 (.block 0 (.loop a0f))) (.seq awc .ret)))
def i_ai:IFunc:=⟨2,[.t 4],c_ai⟩
def a_ai:=zzy (zzz 6 [awd,awe,awf,awg,awh,r_ai_1,r_ai_0]++[(7,[4])])
def r_bm_0:=rg [
a3c 4 false] [0,1]
def r_bm_1:=rg [
a3r 5 0,a3r 6 1,a3g 7 n_ai [(.t 5),(.t 6)],a3e 8 .geq 7 0,a3x 4 8] [4]
def c_bm:ICode:=(.seq r_bm_0 (.seq r_bm_1 .ret))
def i_bm:IFunc:=⟨2,[.t 4],c_bm⟩
def a_bm:=zzy (zzz 1 [r_bm_1,r_bm_0])
def r_cz_0:=rg [
oo 1 (.box 5 (.t 0)),a3c 2 false] [1]
def r_cz_1:=rg [
a3h 3 0 1,a3p 4 3,a3g 5 n_bm [(.t 4),(.c (.bool false))],a3x 2 5] [2]
def c_cz:ICode:=(.seq r_cz_0 (.seq r_cz_1 .ret))
def i_cz:IFunc:=⟨1,[.t 2],c_cz⟩
def a_cz:=zzy (zzz 1 [r_cz_1,r_cz_0])
def r_ac_0:=rg [
oo 4 (.box 8 (.t 0)),oo 6 (.box 5 (.t 2)),oo 7 (.box 6 (.t 3)),oo 8 (.alloc [(.int .i64 0),(.int .i64 0)]),oo 9 (.asg (.c .nilS)),a3d 10 0] [1,4,6,7,8]
def r_b7:=rg [
a3q 17 6 7,a3g 18 n_bd [(.t 17)],a3x 11 18] [1,4,6,7,8,11]
def r_ct:=rg [
a3r 19 11,a3e 20 .neq 19 0] [1,4,6,7,8,11,20]
@[go_sem] def r_ac_3_o:Ops:=[
oo 21 (.build [(.int .i64 0),(.int .i64 0)] []),a3r 22 11,a3w 2 8 21,oo 9 (.asg (.c .nilS)),a3x 10 22]
def r_ac_3:=rg r_ac_3_o [8,9,10]
def r_ac_4:=rg [
a3r 23 1,a3q 24 6 7,oo 25 (.build [(.int .i64 0),(.int .i64 0),(.int .i64 0),(.int .i64 0),(.int .i64 0),(.int .i64 0),(.int .i64 0),(.int .i64 0),(.int .i64 0),.nilS,(.int .i64 0)] [(0,1,(.t 23)),(1,6,(.t 24))]),oo 26 (.box 11 (.t 25)),a3x 12 26] [4,6,7,8,12]
def r_ac_5:=rg [
a3q 27 5 6,a3g 28 n_cz [(.t 27)]] [4,6,7,8,12,28]
def r_ac_6:=rg [
a3r 29 12,a3h 30 0 6,a3p 31 30,a3g 32 n_bz [(.t 31)],a3g 33 n_bn [(.t 29),(ci 0),(.t 32)]] [4,6,7,8,12]
def r_ac_7:=rg [
a3c 13 false] [4,6,7,8,12,13]
def r_ac_8:=rg [
a3h 34 0 4,a3p 35 34] [4,6,7,8,12,13,35]
def r_ac_9:=rg [
a3e 37 .eql 35 12,a3x 36 37] [4,6,7,8,12,13,35,36]
def axx:=rg [
a3e 39 .eql 35 0,a3x 38 39] [4,6,7,8,12,13,35,38]
def axw:=rg [
a3e 41 .eql 35 1,a3x 40 41] [4,6,7,8,12,13,35,40]
def axv:=rg [
a3e 42 .eql 35 13,a3x 40 42] [4,6,7,8,12,13,35,40]
def axu:=rg [
a3e 44 .eql 35 9,a3x 43 44] [4,6,7,8,12,13,35,43]
@[go_sem] def axt:Ops:=[
a3e 46 .eql 35 14,a3x 45 46]
def r_ac_14:=rg axt [4,6,7,8,12,13,35,45]
@[go_sem] def axs:Ops:=[
a3e 48 .eql 35 7,a3x 47 48]
def r_ac_15:=rg axs [6,7,8,12,13,35,47]
@[go_sem] def axr:Ops:=[
a3e 49 .eql 35 16,a3x 47 49]
def r_ac_16:=rg axr [6,7,8,12,13,35,47]
@[go_sem] def axq:Ops:=[
a3e 50 .eql 35 17,a3x 47 50]
def r_ac_17:=rg axq [6,7,8,12,13,35,47]
@[go_sem] def axp:Ops:=[
a3e 52 .eql 35 8,a3x 51 52]
def r_ac_18:=rg axp [6,8,12,13,35,51]
@[go_sem] def axo:Ops:=[
a3e 54 .eql 35 10,a3x 53 54]
def r_ac_19:=rg axo [6,8,12,35,53]
@[go_sem] def axn:Ops:=[
a3e 55 .eql 35 11,a3x 53 55]
def r_ac_20:=rg axn [6,8,12,53]
@[go_sem] def axm:Ops:=[
a3h 56 1 6,a3p 57 56,a3o 58 false 57,oo 59 (.mkS 1 1 (.bool false) (.t 58) (.t 58)),a3x 14 59]
def r_ac_21:=rg axm [6,8,12,14]
@[go_sem] def axl:Ops:=[
a3h 60 1 6,a3p 61 60,a3o 62 false 61,oo 63 (.mv (ci 0))]
def r_ac_22:=rg axl [8,12,14,61,62,63]
@[go_sem] def axj:Ops:=[
a3f 64 .lss 63 62]
def axk:=rg axj [8,12,14,61,62,63,64]
@[go_sem] def axh:Ops:=[
a3r 65 63,a3m 66 1 61 63,a3p 67 66,a3x 15 65,a3x 16 67]
def axi:=rg axh [8,12,14,15,16,61,62,63]
@[go_sem] def axf:Ops:=[
a3r 68 14,a3r 69 15,a3r 70 16,a3e 71 .neq 70 0,a3m 72 1 68 69,a3w 1 72 71]
def axg:=rg axf [8,12,14,61,62,63]
@[go_sem] def axd:Ops:=[
a3e 73 .add 63 1,a3r 63 73]
def axe:=rg axd [8,12,14,61,62,63]
def a0i:ICode:=(.seq axk (.seq (.cond (.t 64) .skip (.exit 10)) (.seq (.block 11 (.seq axi axg)) axe)))
def a0w:=a3k a0i.eq_1
@[go_sem] def axc:Ops:=[
a3r 74 12,a3r 75 14,a3g 76 n_bz [(.t 75)],a3g 77 n_bn [(.t 74),(ci 1),(.t 76)]]
def r_ac_28:=rg axc [8,12]
@[go_sem] def axb:Ops:=[
a3r 78 12,a3h 79 1 6,a3p 80 79,a3g 81 n_dm [(.t 80)],a3g 82 n_af [(.t 81)],a3g 83 n_bn [(.t 78),(ci 1),(.t 82)]]
def r_ac_29:=rg axb [8,12]
def axa:=rg [
a3r 84 12,a3h 85 1 6,a3p 86 85,a3g 87 n_ay [(.t 86),(.c (.fn n_b7))],a3g 88 n_bk [(.t 84),(ci 1),(.t 87),(.c (.bool true))]] [6,8,12]
def aw9:=rg [
a3r 89 12,a3h 90 2 6,a3p 91 90,a3g 92 n_bg [(.t 91),(.c (.fn n_ct))],a3g 93 n_bk [(.t 89),(ci 5),(.t 92),(.c (.bool false))]] [8,12]
@[go_sem] def aw8:Ops:=[
a3r 94 12,a3h 95 1 6,a3p 96 95,a3g 97 n_dl [(.t 96)],a3g 98 n_bn [(.t 94),(ci 1),(.t 97)]]
def r_ac_32:=rg aw8 [4,6,8,12]
@[go_sem] def aw7:Ops:=[
a3r 99 12,a3h 100 5 4,a3p 101 100,oo 102 (.lit false 1 1 (.int .i64 0) [(0,(.t 101))]),a3h 103 1 6,a3p 104 103,a3o 105 false 104,a3g 106 n_de [(.t 102),(.t 105)],a3g 107 n_bk [(.t 99),(ci 5),(.t 106),(.c (.bool true))]]
def r_ac_33:=rg aw7 [8,12]
@[go_sem] def aw6:Ops:=[
a3h 108 3 6,a3p 109 108,a3h 110 3 7,a3p 111 110,a3g 112 n_dn [(.t 109),(.t 111)],a3x 13 112]
def r_ac_34:=rg aw6 [6,8,12,13]
@[go_sem] def aw5:Ops:=[
a3r 113 12,a3h 114 3 6,a3p 115 114,a3r 116 13,a3g 117 n_df [(.t 113),(.t 115),(.t 116)]]
def r_ac_35:=rg aw5 [8,12]
@[go_sem] def aw4:Ops:=[
a3r 118 12,a3h 119 4 6,a3p 120 119,a3g 121 n_bk [(.t 118),(ci 2),(.t 120),(.c (.bool false))]]
def r_ac_36:=rg aw4 [8,12]
@[go_sem] def aw3:Ops:=[
a3r 122 12,a3h 123 1 6,a3p 124 123,a3g 125 n_bk [(.t 122),(ci 1),(.t 124),(.c (.bool true))]]
def r_ac_37:=rg aw3 [8,12]
def aw2:=rg [
a3r 126 12,a3s 127 126,a3h 128 10 127,a3p 129 128,a3e 130 .neq 129 0] [8,12,130]
@[go_sem] def aw0:Ops:=[
oo 131 (.build [(.int .i64 0),(.int .i64 0)] []),a3r 132 12,a3s 133 132,a3h 134 10 133,a3p 135 134,a3w 2 8 131,oo 9 (.asg (.c .nilS)),a3x 10 135]
def aw1:List (Nat×Nat):=[(0,1),(0,2),(0,3),(0,4),(1,5),(2,5),(3,5),(4,5),(1,6),(2,6),(3,6),(4,6)]
def r_ac_39:ICode:= .region aw0 aw1 [8,9,10]
@[go_sem] def yo:Ops:=[
a3r 136 12,a3s 137 136,a3h 138 7 137,a3q 139 2 138,a3r 140 12,a3s 141 140,a3h 142 9 141,a3p 143 142,a3g 144 n_db [(.t 143)],a3w 2 8 139,a3x 9 144,a3d 10 0]
def yp:List (Nat×Nat):=[(0,4),(1,4),(2,4),(3,4),(0,5),(1,5),(2,5),(3,5),(0,6),(1,6),(2,6),(3,6),(0,7),(1,7),(2,7),(3,7),(0,8),(1,8),(2,8),(3,8)]
def awz:ICode:= .region yo yp [8,9,10]
@[go_sem] theorem r_ac_40_u:Gu X K s awz yp yo [8,9,10]:=go_regionU' _ _ _ _
def c_ac:ICode:=(.seq r_ac_0 (.seq (.seq r_b7 (.seq r_ct (.cond (.t 20) (.seq r_ac_3 .ret) .skip))) (.seq r_ac_4 (.seq (.seq r_ac_5 (.cond (.t 28) r_ac_6 .skip)) (.seq r_ac_7 (.seq (.seq r_ac_8 (.block 0 (.seq (.block 9 (.seq (.block 8 (.seq (.block 7 (.seq (.block 6 (.seq (.block 5 (.seq (.block 4 (.seq (.block 3 (.seq (.block 2 (.seq (.block 1 (.seq (.seq (.seq r_ac_9 (.cond (.t 36) (.exit 1) .skip)) (.seq (.seq axx (.cond (.t 38) (.exit 2) .skip)) (.seq (.seq (.seq axw (.cond (.t 40) .skip axv)) (.cond (.t 40) (.exit 3) .skip)) (.seq (.seq axu (.cond (.t 43) (.exit 4) .skip)) (.seq (.seq r_ac_14 (.cond (.t 45) (.exit 5) .skip)) (.seq (.seq (.seq r_ac_15 (.cond (.t 47) .skip (.seq r_ac_16 (.cond (.t 47) .skip r_ac_17)))) (.cond (.t 47) (.exit 6) .skip)) (.seq (.seq r_ac_18 (.cond (.t 51) (.exit 7) .skip)) (.seq (.seq r_ac_19 (.cond (.t 53) .skip r_ac_20)) (.cond (.t 53) (.exit 8) .skip))))))))) (.exit 9))) (.exit 0))) (.seq (.seq r_ac_21 (.seq (.seq r_ac_22 (.block 10 (.loop a0i))) (.seq (.demote [14]) r_ac_28))) (.exit 0)))) (.seq r_ac_29 (.exit 0)))) (.seq (.seq axa aw9) (.exit 0)))) (.seq (.seq r_ac_32 r_ac_33) (.exit 0)))) r_ac_34)) (.seq r_ac_35 (.exit 0)))) (.seq r_ac_36 (.exit 0)))) (.seq r_ac_37 (.exit 0))))) (.seq aw2 (.cond (.t 130) (.seq r_ac_39 .ret) (.seq awz .ret)))))))))
def i_ac:IFunc:=⟨4,[.cell 8 (some 2),.t 9,.t 10],c_ac⟩
def a_ac:Advice:=⟨[],zzz 13 [axu,axv,axw,axx,r_ac_9,r_ac_8,r_ac_7,r_ac_6,r_ac_5,r_ac_4,.ret,.ret,.ret,r_ac_0]++[(39,[8,9,10]),(38,[8,9,10]),(37,[8,12,130]),(36,[8,12]),(35,[8,12]),(34,[8,12]),(33,[6,8,12,13]),(32,[8,12]),(31,[4,6,8,12]),(30,[8,12]),(29,[6,8,12]),(28,[8,12]),(27,[8,12]),(26,[8,12,14,61,62,63]),(25,[8,12,14,61,62,63]),(24,[8,12,14,15,16,61,62,63]),(23,[8,12,14,61,62,63,64]),(22,[8,12,14,61,62,63]),(21,[6,8,12,14]),(20,[6,8,12,53]),(19,[6,8,12,35,53]),(18,[6,8,12,13,35,51]),(17,[6,7,8,12,13,35,47]),(16,[6,7,8,12,13,35,47]),(15,[6,7,8,12,13,35,47]),(14,[4,6,7,8,12,13,35,45]),(3,[8,9,10]),(2,[1,4,6,7,8,11,20]),(1,[1,4,6,7,8,11])],[(27,[14])],[],[],[]⟩
def r_cg_0:=rg [
oo 1 (.box 5 (.t 0)),oo 2 (.alloc [.nilS,.nilS,.nilS,.nilS,.nilS])] [1,2]
def r_cg_1:=rg [
a3h 3 0 1,a3p 4 3,a3h 5 1 1,a3p 6 5,a3h 7 2 1,a3p 8 7,a3h 9 3 1,a3p 10 9,a3h 11 4 1,a3p 12 11,oo 13 (.build [.nilS,.nilS,.nilS,.nilS,.nilS] [(0,1,(.t 4)),(1,1,(.t 6)),(2,1,(.t 8)),(3,1,(.t 10)),(4,1,(.t 12))]),a3w 5 2 13] [2]
def c_cg:ICode:=(.seq r_cg_0 (.seq r_cg_1 .ret))
def i_cg:IFunc:=⟨1,[.cell 2 (some 5)],c_cg⟩
def a_cg:=zzy (zzz 1 [r_cg_1,r_cg_0])
def r_bd_0:=rg [
oo 1 (.box 6 (.t 0)),a3d 2 0] [1]
def r_bd_1:=rg [
a3h 3 0 1,a3p 4 3] [1,4]
def r_bd_2:=rg [
a3e 6 .eql 4 0,a3x 5 6] [1,4,5]
def r_bd_3:=rg [
a3e 7 .eql 4 4,a3x 5 7] [1,5]
def r_bd_4:=rg [
a3d 2 7] [2]
def r_bd_5:=rg [
a3h 8 1 1,a3p 9 8,a3e 10 .lss 9 64,a3r 11 10,og 12 11 false (.fieldA 1 (.t 1)),og 13 11 false (.load none (.t 12)),og 14 11 false (.bin .gtr (.t 13) (ci 65536)),a3v 15 11 14,a3r 16 15,og 17 16 false (.fieldA 2 (.t 1)),og 18 16 false (.load none (.t 17)),og 19 16 false (.bin .lss (.t 18) (ci 1)),a3v 20 16 19,a3r 21 20,og 22 21 false (.fieldA 2 (.t 1)),og 23 21 false (.load none (.t 22)),og 24 21 false (.bin .gtr (.t 23) (ci 2)),a3v 25 21 24,a3r 26 25,og 27 26 false (.fieldA 3 (.t 1)),og 28 26 false (.load none (.t 27)),og 29 26 false (.bin .lss (.t 28) (ci 0)),a3v 30 26 29,a3r 31 30,og 32 31 false (.fieldA 3 (.t 1)),og 33 31 false (.load none (.t 32)),og 34 31 false (.bin .gtr (.t 33) (ci 100)),a3v 35 31 34,a3r 36 35,og 37 36 false (.fieldA 4 (.t 1)),og 38 36 false (.load none (.t 37)),og 39 36 false (.bin .lss (.t 38) (ci 1)),a3v 40 36 39,a3r 41 40,og 42 41 false (.fieldA 4 (.t 1)),og 43 41 false (.load none (.t 42)),og 44 41 false (.bin .gtr (.t 43) (ci 4096)),a3v 45 41 44,a3r 46 45,og 47 46 false (.fieldA 5 (.t 1)),og 48 46 false (.load none (.t 47)),og 49 46 false (.bin .lss (.t 48) (ci 0)),a3v 50 46 49,a3r 51 50,og 52 51 false (.fieldA 5 (.t 1)),og 53 51 false (.load none (.t 52)),og 54 51 false (.bin .gtr (.t 53) (ci 4096)),a3v 55 51 54] [55]
def r_bd_6:=rg [
a3d 2 1] [2]
def r_bd_7:=rg [
a3d 2 0] [2]
def c_bd:ICode:=(.seq r_bd_0 (.seq (.seq r_bd_1 (.block 0 (.seq (.seq r_bd_2 (.cond (.t 5) .skip r_bd_3)) (.cond (.t 5) .skip (.seq r_bd_4 .ret))))) (.seq r_bd_5 (.cond (.t 55) (.seq r_bd_6 .ret) (.seq r_bd_7 .ret)))))
def i_bd:IFunc:=⟨1,[.t 2],c_bd⟩
def a_bd:=zzy (zzz 7 [r_bd_7,r_bd_6,r_bd_5,.ret,.ret,.ret,r_bd_1,r_bd_0]++[(2,[2]),(4,[1,5]),(3,[1,4,5])])
def r_aa_0:=rg [
oo 3 (.box 6 (.t 1)),a3c 4 false] [0,3]
def r_aa_1:=rg [
a3g 13 n_dc [],a3t 14 13] [0,3,14]
@[go_sem] def r_aa_2_o:Ops:=[
a3c 4 false]
def r_aa_2:=rg r_aa_2_o [4]
def r_aa_3:=rg [
a3r 15 0,a3o 16 false 15,a3e 17 .gtr 16 200,a3r 18 17,og 19 18 false (.load (some 6) (.t 3)),og 20 18 false (.call false n_bd [(.t 19)]),og 21 18 false (.bin .neq (.t 20) (ci 0)),a3v 22 18 21] [0,3,22]
def r_aa_4:=rg [
a3c 4 true] [4]
def r_aa_5:=rg [
oo 23 (.lit false 1 1 (.str []) [(0,(.c (.str [97])))]),oo 24 (.build [(.int .i64 0),.nilS,.nilS,(.int .i64 0),(.int .i64 0),(.int .i64 0)] [(0,1,(ci 9))]),oo 25 (.lit false 6 1 (.agg [(.int .i64 0),(.sl []),(.sl []),(.int .i64 0),(.int .i64 0),(.int .i64 0)]) [(0,(.t 24))]),oo 26 (.build [(.int .i64 0),.nilS,.nilS,(.int .i64 0),(.int .i64 0),(.int .i64 0)] [(0,1,(ci 12)),(1,1,(.t 23)),(2,1,(.t 25))]),a3g 27 n_dh [(.t 26)],a3x 5 27] [0,3,5]
def r_aa_6:=rg [
a3r 28 5,a3o 29 false 28,a3e 30 .neq 29 2] [0,3,5,30]
@[go_sem] def r_aa_7_o:Ops:=[
a3c 4 false]
def r_aa_7:=rg r_aa_7_o [4]
def r_aa_8:=rg [
a3r 31 0,oo 32 (.build [.nilS,.nilS,.nilS,.nilS,.nilS] [(0,1,(.t 31))]),oo 6 (.alloc [.nilS,.nilS,.nilS,.nilS,.nilS]),a3w 5 6 32] [0,3,5,6]
def r_aa_9:=rg [
a3c 7 false] [0,3,5,6,7]
def axz:=rg [
a3d 8 0] [0,3,5,6,7,8]
def adz:=rg [
a3r 33 8,a3r 34 0,a3o 35 false 34,a3f 36 .lss 33 35] [0,3,5,6,7,8,36]
def ady:=rg [
a3r 39 0,a3r 40 8,a3m 41 1 39 40,a3p 42 41] [0,3,5,6,7,8,42]
def adx:=rg [
a3h 43 1 6,a3p 44 43,a3r 45 8,oo 46 (.lit false 1 1 (.int .i64 0) [(0,(.t 45))]),oo 47 (.append 1 8 (.t 44) (.t 46)),a3h 48 1 6,a3w 1 48 47] [0,3,5,6,7,8]
def adw:=rg [
a3h 49 2 6,a3p 50 49,a3r 51 8,oo 52 (.lit false 1 1 (.int .i64 0) [(0,(.t 51))]),oo 53 (.append 1 8 (.t 50) (.t 52)),a3h 54 2 6,a3w 1 54 53] [0,3,5,6,7,8]
def adv:=rg [
a3r 55 7,a3r 56 55,a3j 57 56 false 0,a3j 58 56 false 8,og 59 56 false (.idxA 1 (.t 57) (.t 58)),og 60 56 false (.load none (.t 59)),og 61 56 false (.un .not (.t 60)),a3v 62 56 61,a3x 7 62] [0,3,5,6,7,8]
def adu:=rg [
a3r 37 8,a3e 38 .add 37 1,a3x 8 38] [0,3,5,6,7,8]
def afa:ICode:=(.seq (.seq adz (.cond (.t 36) .skip (.exit 0))) (.seq (.block 1 (.seq (.seq ady (.cond (.t 42) (.seq adx adw) .skip)) adv)) adu))
def a0x:=a3k afa.eq_1
@[go_sem] def zr:Ops:=[
a3r 64 5,oo 65 (.idxA 8 (.t 64) (ci 1)),a3q 66 8 65,a3q 67 5 6,a3g 68 n_cg [(.t 67)],a3q 69 6 3,a3g 70 n_ac [(.t 66),(ci 1),(.t 68),(.t 69)],a3r 63 70,a3y 71 63 0,a3y 72 63 1,a3y 73 63 2,oo 9 (.alloc [(.int .i64 0),(.int .i64 0)]),a3w 2 9 71,a3x 10 72,a3x 11 73]
def zt:List (Nat×Nat):=[(0,3),(1,3),(2,3),(0,4),(1,4),(2,4),(0,5),(1,5),(2,5),(3,5),(4,5),(8,9),(8,10),(9,10),(0,11),(1,11),(2,11),(3,11),(4,11),(5,11),(6,11),(7,11),(8,11),(9,11),(10,11),(9,12),(10,12),(10,13)]
def adt:ICode:= .region zr zt [7,10,11]
@[go_sem] theorem r_aa_18_u:Gu X K s adt zt zr [7,10,11]:=go_regionU' _ _ _ _
def ads:=rg [
a3d 12 0] [7,10,11,12]
def adr:=rg [
a3r 74 7] [7,10,11,12,74]
def adq:=rg [
a3d 12 1] [7,10,11,12]
def adp:=rg [
a3r 75 11,a3e 76 .eql 75 0,a3r 77 76,a3j 78 77 true 10,og 79 77 true (.len false (.t 78)),a3j 80 77 true 12,og 81 77 true (.bin .add (ci 2) (.t 80)),og 82 77 true (.bin .eql (.t 79) (.t 81)),a3u 83 77 82,a3r 84 83,a3j 85 84 true 7,og 86 84 true (.un .not (.t 85)),a3j 87 84 true 86,a3j 88 87 false 10,og 89 87 false (.idxA 3 (.t 88) (ci 0)),og 90 87 false (.fieldA 0 (.t 89)),og 91 87 false (.load none (.t 90)),og 92 87 false (.bin .eql (.t 91) (ci 0)),og 93 84 true (.pick (.t 87) (.c (.bool true)) (.t 92)),a3u 94 84 93,a3r 95 94,a3j 96 95 true 10,a3j 97 95 true 12,og 98 95 true (.idxA 3 (.t 96) (.t 97)),og 99 95 true (.fieldA 0 (.t 98)),og 100 95 true (.load none (.t 99)),og 101 95 true (.bin .eql (.t 100) (ci 1)),a3u 102 95 101,a3r 103 102,a3j 104 103 true 10,a3j 105 103 true 12,og 106 103 true (.bin .add (.t 105) (ci 1)),og 107 103 true (.idxA 3 (.t 104) (.t 106)),og 108 103 true (.fieldA 0 (.t 107)),og 109 103 true (.load none (.t 108)),og 110 103 true (.bin .eql (.t 109) (ci 5)),a3u 111 103 110,a3x 4 111] [4]
def c_aa:ICode:=(.seq r_aa_0 (.seq r_aa_1 (.cond (.t 14) (.seq r_aa_2 .ret) (.seq r_aa_3 (.cond (.t 22) (.seq r_aa_4 .ret) (.seq r_aa_5 (.seq r_aa_6 (.cond (.t 30) (.seq r_aa_7 .ret) (.seq r_aa_8 (.seq r_aa_9 (.seq (.seq axz (.block 0 (.loop afa))) (.seq adt (.seq ads (.seq (.seq adr (.cond (.t 74) adq .skip)) (.seq adp .ret)))))))))))))))
def i_aa:IFunc:=⟨2,[.t 4],c_aa⟩
def a_aa:Advice:=⟨[47,53],zzz 16 [adu,adv,adw,.ret,.ret,adz,axz,r_aa_9,r_aa_8,.ret,r_aa_6,r_aa_5,r_aa_4,r_aa_3,.ret,r_aa_1,r_aa_0]++[(21,[4]),(20,[7,10,11,12]),(19,[7,10,11,12,74]),(18,[7,10,11,12]),(17,[7,10,11]),(12,[0,3,5,6,7,8]),(13,[0,3,5,6,7,8,42]),(7,[4]),(2,[4])],[],[],[],[]⟩
def tbl:List (FuncId×IFunc):=[(n_bu,i_bu),(n_ct,i_ct),(n_bg,i_bg),(n_bl,i_bl),(n_b5,i_b5),(n_aj,i_aj),(n_ae,i_ae),(n_ak,i_ak),(n_br,i_br),(n_ao,i_ao),(n_av,i_av),(n_cw,i_cw),(n_bh,i_bh),(n_cx,i_cx),(n_cf,i_cf),(n_ap,i_ap),(n_aw,i_aw),(n_ce,i_ce),(n_ck,i_ck),(n_bc,i_bc),(n_bq,i_bq),(n_cy,i_cy),(n_b9,i_b9),(n_au,i_au),(n_bx,i_bx),(n_ab,i_ab),(n_b8,i_b8),(n_ag,i_ag),(n_ba,i_ba),(n_bt,i_bt),(n_aq,i_aq),(n_bk,i_bk),(n_b7,i_b7),(n_ay,i_ay),(n_b6,i_b6),(n_bw,i_bw),(n_bv,i_bv),(n_ah,i_ah),(n_cm,i_cm),(n_ax,i_ax),(n_b4,i_b4),(n_az,i_az),(n_cn,i_cn),(n_am,i_am),(n_bn,i_bn),(n_bp,i_bp),(n_af,i_af),(n_bo,i_bo),(n_bz,i_bz),(n_ai,i_ai),(n_bm,i_bm),(n_cz,i_cz),(n_ac,i_ac),(n_cg,i_cg),(n_bd,i_bd),(n_aa,i_aa)]
def clips:List FuncId:=[49,133,132,84,32,78,76]
noncomputable def tab:List AF:=[⟨232,Tryz.f232,⟨[],[(0,[])],[],[],[],[]⟩⟩,
⟨231,Tryz.f231,⟨[],[(1,[6]),(0,[0,1,2])],[],[],[],[]⟩⟩,
⟨230,Tryz.f230,⟨[],[(1,[2]),(0,[0])],[],[],[],[]⟩⟩,
⟨131,Tryz.f131,⟨[],[(1,[4]),(0,[0,1])],[],[],[],[]⟩⟩,
⟨130,Tryz.f130,⟨[],[(8,[6,7]),(6,[0,1,2,8,9,10]),(7,[0,1,2,8,9,10]),(5,[0,1,2,8,9,10,11,31]),(4,[0,1,2,8,9,10,11]),(3,[0,1,2,8,9,10,17]),(2,[0,1,2,8,9,10]),(1,[0,1,2,8]),(0,[0,1,2])],[],[],[],[]⟩⟩,
⟨91,Tryz.f91,⟨[25,44,49,52],[(15,[2]),(14,[2,3]),(13,[2,3,4,28,29,30]),(12,[2,3,4,28,29,30]),(11,[2,3,4,9,28,29,30]),(10,[2,3,4,8,28,29,30]),(9,[2,3,4,28,29,30,31]),(8,[2,3,4,28,29,30]),(7,[0,2,3,4,13,14,15]),(6,[0,2,3,4,13,14,15]),(5,[0,2,3,4,6,13,14,15]),(4,[0,2,3,4,13,14,15,16]),(3,[0,2,3,4,13,14,15]),(2,[0,2,3,4]),(1,[0,2,3]),(0,[0,2])],[],[],[],[]⟩⟩,
⟨129,Tryz.f129,⟨[60],[(25,[4]),(24,[1,8,9,70,71,72]),(23,[1,8,9,70,71,72]),(22,[1,8,9,11,70,71,72]),(21,[1,8,9,11,70,71,72]),(20,[1,8,9,70,71,72,73]),(19,[1,8,9,70,71,72]),(18,[0,1,8,9]),(17,[0,1,8]),(16,[0,1,5,42,43,44]),(15,[0,1,5,42,43,44]),(14,[0,1,5,7,42,43,44]),(13,[0,1,5,7,42,43,44,52]),(12,[0,1,5,7,42,43,44]),(11,[0,1,5,42,43,44,45]),(10,[0,1,5,42,43,44]),(9,[0,1,5]),(8,[0,1,5]),(7,[0,1,5,32]),(6,[0,1,5,25]),(5,[0,1,5]),(4,[4]),(3,[0,1,18]),(2,[4]),(1,[0,1,14]),(0,[0,1])],[],[],[],[]⟩⟩,
⟨90,Tryz.f90,⟨[20],[(7,[2,3]),(6,[0,4,10,11,12]),(5,[0,4,10,11,12]),(4,[0,4,6,10,11,12]),(3,[0,4,10,11,12,13]),(2,[0,4,10,11,12]),(1,[0,4]),(0,[0])],[],[],[],[]⟩⟩,
⟨48,Tryz.f48,⟨[],[(9,[]),(8,[0,9]),(7,[0,9,10]),(6,[0,8,9,10]),(5,[0,8,9,10]),(4,[0,8]),(3,[]),(2,[0,7]),(1,[0,6,7]),(0,[0,1,12])],[],[],[],[]⟩⟩,
⟨128,Tryz.f128,⟨[],[(1,[4]),(0,[0,1])],[],[],[],[]⟩⟩,
⟨127,Tryz.f127,⟨[],[(16,[4]),(5,[0,1,5]),(15,[4]),(14,[0,5]),(10,[0,1,5,6,7]),(13,[0,1,5,6,7]),(12,[0,1,5,6,7]),(11,[0,1,5,6,7,49]),(9,[0,1,5,6,7,35]),(8,[0,1,5,6,7]),(7,[0,1,5,6]),(6,[0,1,5,28]),(4,[0,1,5,15]),(3,[0,1,5]),(2,[4]),(1,[0,1,10]),(0,[0,1])],[],[],[],[]⟩⟩,
⟨192,Tryz.f192,⟨[],[(22,[8,9]),(21,[11]),(20,[0,1,10,11]),(19,[0,1,10,11]),(18,[0,1,10,11]),(17,[0,1,10,11,84]),(16,[0,1,10,11]),(15,[0,1,10,11,79]),(14,[0,1,10,11]),(13,[0,1,10,11,67]),(12,[0,1,10,11]),(11,[0,1,10,11]),(10,[0,1,10,11]),(9,[8,9]),(8,[11]),(7,[0,1,10,11,45]),(6,[0,1,10,11]),(5,[0,1,10,11,40]),(4,[0,1,10,11]),(3,[0,1,10,11,28]),(2,[0,1,10,11]),(1,[0,1,2]),(0,[0,1,2,3])],[],[],[],[]⟩⟩,
⟨191,Tryz.f191,⟨[],[(11,[8]),(10,[0,1,9,10]),(9,[0,1,9,10]),(8,[0,1,9,10]),(7,[0,1,9,10,44]),(6,[0,1,9,10]),(5,[0,1,9,10,39]),(4,[0,1,9,10]),(3,[0,1,9,10,28]),(2,[0,1,9,10]),(1,[0,1,2]),(0,[0,1,2,3])],[],[],[],[]⟩⟩,
⟨190,Tryz.f190,⟨[],[(24,[6]),(4,[0,1,2,7,8]),(21,[0,1,2,7,8,10]),(23,[0,1,2,7,8,10]),(22,[0,1,2,7,8,10,79]),(20,[0,1,2,7,8,10,71]),(19,[0,1,2,7,8,10]),(18,[0,1,2,7,8,66]),(15,[0,1,2,7,8,9]),(17,[0,1,2,7,8,9]),(16,[0,1,2,7,8,9,57]),(14,[0,1,2,7,8,9,49]),(13,[0,1,2,7,8,9]),(12,[0,1,2,7,8,45]),(11,[0,1,2,7,8]),(10,[6]),(9,[0,1,2,7,8,36]),(8,[6]),(7,[0,1,2,7,8,32]),(6,[0,1,2,7,8]),(5,[0,1,2,7,8,27]),(3,[0,1,2,7,8,14]),(2,[0,1,2,7,8]),(1,[0,1,2,7]),(0,[0,1,2])],[],[],[],[]⟩⟩,
⟨189,Tryz.f189,⟨[],[(5,[0,6,7]),(4,[0,6,7]),(3,[0,6,7]),(2,[0,6,7,13]),(1,[0,6,7]),(0,[0,2,6])],[],[],[],[]⟩⟩,
⟨211,Tryz.f211,⟨[],[(4,[8,9]),(3,[8,9]),(2,[1,2]),(1,[1,2,3,13]),(0,[0,1,2,3])],[],[],[],[]⟩⟩,
⟨202,Tryz.f202,⟨[],[(4,[10]),(3,[2]),(2,[0,1,2,4]),(1,[0,1,2,3,4]),(0,[0,1,2,3,4])],[],[],[],[]⟩⟩,
⟨201,Tryz.f201,⟨[],[(1,[6]),(0,[0,1,2])],[],[],[],[]⟩⟩,
⟨188,Tryz.f188,⟨[],[(15,[6,7]),(17,[6,7]),(13,[6,7]),(16,[11,54]),(14,[11,49,51]),(12,[11,49]),(11,[9,11]),(10,[0,9,10,11,12]),(9,[0,9,10,11,12]),(8,[0,9,10,11,12]),(7,[0,9,10,11,12,34]),(6,[0,8,9,10,11,12,32]),(5,[0,8,9,10,11,12]),(4,[0,1,8,9,10,11]),(3,[0,1,8,9,10]),(2,[0,1,8,9]),(1,[0,1,8]),(0,[0,1,2])],[],[],[],[]⟩⟩,
⟨200,Tryz.f200,⟨[],[(4,[2]),(3,[0]),(2,[0]),(1,[0]),(0,[0])],[],[],[],[]⟩⟩,
⟨199,Tryz.f199,⟨[],[(2,[2]),(1,[3]),(0,[0])],[],[],[],[]⟩⟩,
⟨187,Tryz.f187,⟨[],[(6,[0,1,6,7,8,9]),(10,[0,1,6,7,8,9]),(9,[0,1,6,7,8,9,10]),(8,[0,1,6,7,8,9,10,43]),(7,[0,1,6,7,8,9,10]),(5,[0,1,6,7,8,9,33]),(4,[0,1,6,7,8,9]),(3,[0,1,6,7,8]),(2,[0,1,6,7]),(1,[0,1,6,15]),(0,[0,1,6])],[],[],[],[]⟩⟩,
⟨198,Tryz.f198,⟨[],[(7,[0,2,3,8]),(6,[0,2,3,9]),(5,[0,2,3,8,9,42]),(4,[0,2,3,8,9]),(3,[0,2,3,8,9,31]),(2,[0,2,3,8,9,16]),(1,[0,2,3,8,9]),(0,[0,2,3,8])],[],[],[],[]⟩⟩,
⟨186,Tryz.f186,⟨[],[(9,[0,6,7,10]),(11,[0,6,7,10]),(10,[0,6,7,10]),(8,[0,6,7,10,30]),(7,[0,6,7,10]),(5,[0,6,7,8,9]),(6,[0,6,7,8,9]),(4,[0,6,7,8,9,19]),(3,[0,6,7,8,9]),(2,[0,6,7,8]),(1,[0,1,2,6,7]),(0,[0,1,2,6])],[],[],[],[]⟩⟩,
⟨185,Tryz.f185,⟨[],[(2,[0,1,2,6]),(5,[0,1,2,6,7]),(6,[0,1,2,6,7]),(4,[0,1,2,6,7,25]),(3,[0,1,2,6,7]),(1,[0,1,2,6,12]),(0,[0,1,2,6])],[],[],[],[]⟩⟩,
⟨163,Tryz.f163,⟨[],[(27,[0,1,2,3,8,9]),(26,[0,2,3,8,9,14]),(25,[0,1,2,3,8,9,14]),(30,[0,1,2,3,8,9]),(29,[0,1,3,8,9,14]),(28,[0,1,2,3,8,9,14]),(24,[0,1,2,3,9,14,16,17,18,108]),(23,[0,1,2,3,9,14,16,17,18]),(22,[0,1,2,3,9,10,14,16,17]),(21,[0,1,2,3,9,10,14]),(20,[0,1,2,3,10,14,15]),(19,[0,1,2,3,8,9]),(18,[0,2,3,8,9,13]),(17,[0,1,2,3,8,9,10,11,82]),(16,[0,1,2,3,8,9,10,11,72]),(15,[0,1,2,3,8,9,10,11,68]),(14,[0,1,2,3,8,9,10,11,12]),(13,[0,1,2,3,8,9,10,11]),(12,[0,1,2,3,8,9,10,11]),(11,[0,1,2,3,8,9,10,11,12,50]),(10,[0,1,2,3,8,9,10,11,12]),(9,[0,1,2,3,8,9,10]),(8,[0,1,2,3,8,9,10]),(7,[0,1,2,3,8,9,10,35]),(6,[]),(5,[0,1,2,3,8,9,10,29]),(4,[]),(3,[0,1,2,3,8,9,10,23]),(2,[0,1,2,3,8,9,10]),(1,[0,1,2,3,8,9]),(0,[0,1,2,3,8])],[],[],[],[]⟩⟩,
⟨183,Tryz.f183,⟨[],[(7,[2]),(6,[0,2]),(5,[0,2]),(4,[0,2,8]),(3,[0,2]),(2,[0]),(1,[0,2,4]),(0,[0,2])],[],[],[],[]⟩⟩,
⟨162,Tryz.f162,⟨[],[(2,[2]),(1,[2]),(0,[0])],[],[],[],[]⟩⟩,
⟨126,Tryz.f126,⟨[],[(3,[]),(2,[0,2,3]),(1,[0,2,7]),(0,[0,2])],[],[],[],[]⟩⟩,
⟨125,Tryz.f125,⟨[5],[(3,[2]),(2,[2]),(1,[0,4]),(0,[0])],[],[],[],[]⟩⟩,
⟨89,Tryz.f89,⟨[5,10],[(3,[2]),(2,[3]),(1,[3]),(0,[0])],[],[],[(10,0)],[]⟩⟩,
⟨47,Tryz.f47,⟨[],[(2,[4]),(1,[0,1]),(0,[0,1])],[],[],[],[]⟩⟩,
⟨124,Tryz.f124,⟨[],[(11,[4,5]),(10,[0,1,4]),(9,[0,1,7,9,12,13]),(8,[0,1,6,7,9,12,13]),(7,[0,1,6,7,9,11,12]),(6,[0,1,6,7,9,11]),(5,[0,1,6,7,8,9,10]),(4,[0,1,6,7,8,9]),(3,[0,1,6,7,8]),(2,[0,1,6,7]),(1,[0,1,6]),(0,[0,1])],[],[],[],[]⟩⟩,
⟨123,Tryz.f123,⟨[],[(2,[4,5]),(1,[6]),(0,[0,1])],[],[],[],[]⟩⟩,
⟨88,Tryz.f88,⟨[],[(4,[4,5]),(3,[8,9]),(2,[4,5]),(1,[6,7]),(0,[0,1])],[],[],[],[]⟩⟩,
⟨46,Tryz.f46,⟨[],[(10,[4]),(9,[7,8]),(8,[7,8,37]),(7,[7,8]),(6,[0,7]),(5,[0,6]),(4,[0,6,26]),(3,[0,5,6]),(2,[0,1]),(1,[0,1,10]),(0,[0,1])],[],[],[],[]⟩⟩,
⟨45,Tryz.f45,⟨[],[(7,[2]),(6,[3,6,7,8]),(5,[3,6,7,8]),(4,[3,5,6,7,8]),(3,[3,6,7,8,9]),(2,[3,6,7,8]),(1,[0,3]),(0,[0])],[],[],[],[]⟩⟩,
⟨178,Tryz.f178,⟨[],[(7,[2,3]),(6,[0,5]),(5,[2,3]),(4,[0,4,5,11]),(3,[0,4,5]),(2,[0,5,6]),(1,[0,5]),(0,[0])],[],[],[],[]⟩⟩,
⟨197,Tryz.f197,⟨[],[(21,[2]),(20,[3]),(19,[3]),(18,[3]),(17,[3]),(16,[3]),(15,[3]),(14,[3]),(13,[3,29]),(12,[3,16,27]),(11,[3,16,25]),(10,[3,16,23]),(9,[3,16,21]),(8,[3,16,19]),(7,[3,16,17]),(6,[3,16]),(5,[0,3]),(2,[2]),(4,[2]),(3,[0,11]),(1,[0,4]),(0,[0])],[],[],[],[]⟩⟩,
⟨177,Tryz.f177,⟨[],[(8,[2]),(7,[0,5]),(6,[2]),(5,[0,4,5,12]),(4,[0,4,5]),(3,[0,3,5]),(2,[0,5,6]),(1,[0,5]),(0,[0])],[],[],[],[]⟩⟩,
⟨38,Tryz.f38,⟨[],[(7,[2]),(6,[3,9,10,11]),(5,[3,9,10,11]),(4,[3,4,5,9,10,11]),(3,[3,9,10,11,12]),(2,[3,9,10,11]),(1,[0,3]),(0,[0])],[],[],[],[]⟩⟩,
⟨77,Tryz.f77,⟨[5],[(3,[2]),(2,[2]),(1,[0,4]),(0,[0])],[],[],[],[]⟩⟩,
⟨33,Tryz.f33,⟨[32,44,50],[(11,[8]),(10,[0]),(9,[0,3,9,10,34,35,36]),(8,[0,3,9,10,34,35,36]),(7,[0,3,9,10,12,34,35,36]),(6,[0,3,9,10,12,34,35,36]),(5,[0,3,9,10,34,35,36,37]),(4,[0,3,9,10,34,35,36]),(3,[0,3,5,9,10]),(2,[0,3,5,9]),(1,[0,2,3,5,9]),(0,[0,2,3,5])],[(10,[10])],[(6,[12])],[(50,0)],[]⟩⟩,
⟨111,Tryz.f111,⟨[],[(24,[2]),(23,[2]),(22,[1,73]),(21,[2]),(20,[1,6,72]),(19,[1,3,4,5,6]),(18,[2]),(17,[1,3,4,5,6,48]),(16,[1,3,4,5,6]),(15,[2]),(14,[1,3,4,5,6,40]),(13,[1,3,4,5,6]),(12,[1,3,4,5,6]),(11,[1,3,4,5,6]),(10,[1,3,4,5,6]),(9,[1,3,4,5,6,20]),(8,[1,3,4,5,6,8,17]),(7,[1,3,4,5,6,8,17]),(6,[1,3,4,5,6,8,15]),(5,[1,3,4,5,6,8,13]),(4,[1,3,4,5,6,8,11]),(3,[1,3,4,5,6,8,9]),(2,[1,3,4,5,6,8]),(1,[1,3,4,5,6]),(0,[1])],[],[],[],[]⟩⟩,
⟨75,Tryz.f75,⟨[],[(15,[6]),(14,[1,2,48,49,50]),(13,[6]),(12,[1,2,9,48,49,50,60]),(11,[1,2,9,48,49,50]),(10,[1,2,8,48,49,50]),(9,[1,2,48,49,50,51]),(8,[1,2,48,49,50]),(7,[1,2,3]),(2,[6]),(4,[6]),(6,[6]),(5,[1,2,3,28]),(3,[1,2,3,19]),(1,[1,2,3,10]),(0,[1,2,3])],[],[(10,[8])],[],[]⟩⟩,
⟨31,Tryz.f31,⟨[],[(2,[2]),(1,[1,3]),(0,[1])],[],[],[],[]⟩⟩,
⟨12,Tryz.f12,⟨[],[(3,[2]),(2,[2]),(1,[1,5]),(0,[1])],[],[],[(7,0)],[]⟩⟩]
set_option maxRecDepth 100000 in
theorem k_bu:cFunc Tryz.prog a_bu Tryz.f44=some i_bu:=ux
set_option maxRecDepth 100000 in
theorem k_ct:cFunc Tryz.prog a_ct Tryz.f43=some i_ct:=ux
set_option maxRecDepth 100000 in
theorem k_bg:cFunc Tryz.prog a_bg Tryz.f42=some i_bg:=ux
set_option maxRecDepth 100000 in
theorem k_bl:cFunc Tryz.prog a_bl Tryz.f161=some i_bl:=ux
set_option maxRecDepth 100000 in
theorem k_b5:cFunc Tryz.prog a_b5 Tryz.f160=some i_b5:=ux
set_option maxRecDepth 100000 in
theorem k_aj:cFunc Tryz.prog a_aj Tryz.f122=some i_aj:=ux
set_option maxRecDepth 100000 in
theorem k_ae:cFunc Tryz.prog a_ae Tryz.f159=some i_ae:=ux
set_option maxRecDepth 100000 in
theorem k_ak:cFunc Tryz.prog a_ak Tryz.f182=some i_ak:=ux
set_option maxRecDepth 100000 in
theorem k_br:cFunc Tryz.prog a_br Tryz.f158=some i_br:=ux
set_option maxRecDepth 100000 in
theorem k_ao:cFunc Tryz.prog a_ao Tryz.f157=some i_ao:=ux
set_option maxRecDepth 100000 in
theorem k_av:cFunc Tryz.prog a_av Tryz.f179=some i_av:=ux
set_option maxRecDepth 100000 in
theorem k_cw:cFunc Tryz.prog a_cw Tryz.f180=some i_cw:=ux
set_option maxRecDepth 100000 in
theorem k_bh:cFunc Tryz.prog a_bh Tryz.f184=some i_bh:=ux
set_option maxRecDepth 100000 in
theorem k_cx:cFunc Tryz.prog a_cx Tryz.f176=some i_cx:=ux
set_option maxRecDepth 100000 in
theorem k_cf:cFunc Tryz.prog a_cf Tryz.f175=some i_cf:=ux
set_option maxRecDepth 100000 in
theorem k_ap:cFunc Tryz.prog a_ap Tryz.f156=some i_ap:=ux
set_option maxRecDepth 100000 in
theorem k_aw:cFunc Tryz.prog a_aw Tryz.f121=some i_aw:=ux
set_option maxRecDepth 100000 in
theorem k_ce:cFunc Tryz.prog a_ce Tryz.f181=some i_ce:=ux
set_option maxRecDepth 100000 in
theorem k_ck:cFunc Tryz.prog a_ck Tryz.f174=some i_ck:=ux
set_option maxRecDepth 100000 in
theorem k_bc:cFunc Tryz.prog a_bc Tryz.f154=some i_bc:=ux
set_option maxRecDepth 100000 in
theorem k_bq:cFunc Tryz.prog a_bq Tryz.f86=some i_bq:=ux
set_option maxRecDepth 100000 in
theorem k_cy:cFunc Tryz.prog a_cy Tryz.f87=some i_cy:=ux
set_option maxRecDepth 100000 in
theorem k_b9:cFunc Tryz.prog a_b9 Tryz.f153=some i_b9:=ux
set_option maxRecDepth 100000 in
theorem k_au:cFunc Tryz.prog a_au Tryz.f152=some i_au:=ux
set_option maxRecDepth 100000 in
theorem k_bx:cFunc Tryz.prog a_bx Tryz.f151=some i_bx:=ux
set_option maxRecDepth 100000 in
theorem k_ab:cFunc Tryz.prog a_ab Tryz.f119=some i_ab:=ux
set_option maxRecDepth 100000 in
theorem k_b8:cFunc Tryz.prog a_b8 Tryz.f150=some i_b8:=ux
set_option maxRecDepth 100000 in
theorem k_ag:cFunc Tryz.prog a_ag Tryz.f173=some i_ag:=ux
set_option maxRecDepth 100000 in
theorem k_ba:cFunc Tryz.prog a_ba Tryz.f149=some i_ba:=ux
set_option maxRecDepth 100000 in
theorem k_bt:cFunc Tryz.prog a_bt Tryz.f118=some i_bt:=ux
set_option maxRecDepth 100000 in
theorem k_aq:cFunc Tryz.prog a_aq Tryz.f85=some i_aq:=ux
set_option maxRecDepth 100000 in
theorem k_bk:cFunc Tryz.prog a_bk Tryz.f39=some i_bk:=ux
set_option maxRecDepth 100000 in
theorem k_b7:cFunc Tryz.prog a_b7 Tryz.f41=some i_b7:=ux
set_option maxRecDepth 100000 in
theorem k_ay:cFunc Tryz.prog a_ay Tryz.f40=some i_ay:=ux
set_option maxRecDepth 100000 in
theorem k_b6:cFunc Tryz.prog a_b6 Tryz.f116=some i_b6:=ux
set_option maxRecDepth 100000 in
theorem k_bw:cFunc Tryz.prog a_bw Tryz.f172=some i_bw:=ux
set_option maxRecDepth 100000 in
theorem k_bv:cFunc Tryz.prog a_bv Tryz.f148=some i_bv:=ux
set_option maxRecDepth 100000 in
theorem k_ah:cFunc Tryz.prog a_ah Tryz.f171=some i_ah:=ux
set_option maxRecDepth 100000 in
theorem k_cm:cFunc Tryz.prog a_cm Tryz.f170=some i_cm:=ux
set_option maxRecDepth 100000 in
theorem k_ax:cFunc Tryz.prog a_ax Tryz.f146=some i_ax:=ux
set_option maxRecDepth 100000 in
theorem k_b4:cFunc Tryz.prog a_b4 Tryz.f115=some i_b4:=ux
set_option maxRecDepth 100000 in
theorem k_az:cFunc Tryz.prog a_az Tryz.f114=some i_az:=ux
set_option maxRecDepth 100000 in
theorem k_cn:cFunc Tryz.prog a_cn Tryz.f113=some i_cn:=ux
set_option maxRecDepth 100000 in
theorem k_am:cFunc Tryz.prog a_am Tryz.f80=some i_am:=ux
set_option maxRecDepth 100000 in
theorem k_bn:cFunc Tryz.prog a_bn Tryz.f35=some i_bn:=ux
set_option maxRecDepth 100000 in
theorem k_bp:cFunc Tryz.prog a_bp Tryz.f82=some i_bp:=ux
set_option maxRecDepth 100000 in
theorem k_af:cFunc Tryz.prog a_af Tryz.f37=some i_af:=ux
set_option maxRecDepth 100000 in
theorem k_bo:cFunc Tryz.prog a_bo Tryz.f81=some i_bo:=ux
set_option maxRecDepth 100000 in
theorem k_bz:cFunc Tryz.prog a_bz Tryz.f36=some i_bz:=ux
set_option maxRecDepth 100000 in
theorem k_ai:cFunc Tryz.prog a_ai Tryz.f112=some i_ai:=ux
set_option maxRecDepth 100000 in
theorem k_bm:cFunc Tryz.prog a_bm Tryz.f79=some i_bm:=ux
set_option maxRecDepth 100000 in
theorem k_cz:cFunc Tryz.prog a_cz Tryz.f34=some i_cz:=ux
set_option maxRecDepth 100000 in
theorem k_ac:cFunc Tryz.prog a_ac Tryz.f16=some i_ac:=ux
set_option maxRecDepth 100000 in
theorem k_cg:cFunc Tryz.prog a_cg Tryz.f17=some i_cg:=ux
set_option maxRecDepth 100000 in
theorem k_bd:cFunc Tryz.prog a_bd Tryz.f15=some i_bd:=ux
set_option maxRecDepth 100000 in
theorem k_aa:cFunc Tryz.prog a_aa Tryz.f6=some i_aa:=ux
theorem tbl_ok:Entries Tryz.prog tbl:=
 .cons (.of Tryz.func44 ux k_bu) <|
 .cons (.of Tryz.func43 ux k_ct) <|
 .cons (.of Tryz.func42 ux k_bg) <|
 .cons (.of Tryz.func161 ux k_bl) <|
 .cons (.of Tryz.func160 ux k_b5) <|
 .cons (.of Tryz.func122 ux k_aj) <|
 .cons (.of Tryz.func159 ux k_ae) <|
 .cons (.of Tryz.func182 ux k_ak) <|
 .cons (.of Tryz.func158 ux k_br) <|
 .cons (.of Tryz.func157 ux k_ao) <|
 .cons (.of Tryz.func179 ux k_av) <|
 .cons (.of Tryz.func180 ux k_cw) <|
 .cons (.of Tryz.func184 ux k_bh) <|
 .cons (.of Tryz.func176 ux k_cx) <|
 .cons (.of Tryz.func175 ux k_cf) <|
 .cons (.of Tryz.func156 ux k_ap) <|
 .cons (.of Tryz.func121 ux k_aw) <|
 .cons (.of Tryz.func181 ux k_ce) <|
 .cons (.of Tryz.func174 ux k_ck) <|
 .cons (.of Tryz.func154 ux k_bc) <|
 .cons (.of Tryz.func86 ux k_bq) <|
 .cons (.of Tryz.func87 ux k_cy) <|
 .cons (.of Tryz.func153 ux k_b9) <|
 .cons (.of Tryz.func152 ux k_au) <|
 .cons (.of Tryz.func151 ux k_bx) <|
 .cons (.of Tryz.func119 ux k_ab) <|
 .cons (.of Tryz.func150 ux k_b8) <|
 .cons (.of Tryz.func173 ux k_ag) <|
 .cons (.of Tryz.func149 ux k_ba) <|
 .cons (.of Tryz.func118 ux k_bt) <|
 .cons (.of Tryz.func85 ux k_aq) <|
 .cons (.of Tryz.func39 ux k_bk) <|
 .cons (.of Tryz.func41 ux k_b7) <|
 .cons (.of Tryz.func40 ux k_ay) <|
 .cons (.of Tryz.func116 ux k_b6) <|
 .cons (.of Tryz.func172 ux k_bw) <|
 .cons (.of Tryz.func148 ux k_bv) <|
 .cons (.of Tryz.func171 ux k_ah) <|
 .cons (.of Tryz.func170 ux k_cm) <|
 .cons (.of Tryz.func146 ux k_ax) <|
 .cons (.of Tryz.func115 ux k_b4) <|
 .cons (.of Tryz.func114 ux k_az) <|
 .cons (.of Tryz.func113 ux k_cn) <|
 .cons (.of Tryz.func80 ux k_am) <|
 .cons (.of Tryz.func35 ux k_bn) <|
 .cons (.of Tryz.func82 ux k_bp) <|
 .cons (.of Tryz.func37 ux k_af) <|
 .cons (.of Tryz.func81 ux k_bo) <|
 .cons (.of Tryz.func36 ux k_bz) <|
 .cons (.of Tryz.func112 ux k_ai) <|
 .cons (.of Tryz.func79 ux k_bm) <|
 .cons (.of Tryz.func34 ux k_cz) <|
 .cons (.of Tryz.func16 ux k_ac) <|
 .cons (.of Tryz.func17 ux k_cg) <|
 .cons (.of Tryz.func15 ux k_bd) <|
 .cons (.of Tryz.func6 ux k_aa) <|
 .nil
theorem tab_ok:ATab Tryz.prog tab:=
 .cons Tryz.func232 ux <|
 .cons Tryz.func231 ux <|
 .cons Tryz.func230 ux <|
 .cons Tryz.func131 ux <|
 .cons Tryz.func130 ux <|
 .cons Tryz.func91 ux <|
 .cons Tryz.func129 ux <|
 .cons Tryz.func90 ux <|
 .cons Tryz.func48 ux <|
 .cons Tryz.func128 ux <|
 .cons Tryz.func127 ux <|
 .cons Tryz.func192 ux <|
 .cons Tryz.func191 ux <|
 .cons Tryz.func190 ux <|
 .cons Tryz.func189 ux <|
 .cons Tryz.func211 ux <|
 .cons Tryz.func202 ux <|
 .cons Tryz.func201 ux <|
 .cons Tryz.func188 ux <|
 .cons Tryz.func200 ux <|
 .cons Tryz.func199 ux <|
 .cons Tryz.func187 ux <|
 .cons Tryz.func198 ux <|
 .cons Tryz.func186 ux <|
 .cons Tryz.func185 ux <|
 .cons Tryz.func163 ux <|
 .cons Tryz.func183 ux <|
 .cons Tryz.func162 ux <|
 .cons Tryz.func126 ux <|
 .cons Tryz.func125 ux <|
 .cons Tryz.func89 ux <|
 .cons Tryz.func47 ux <|
 .cons Tryz.func124 ux <|
 .cons Tryz.func123 ux <|
 .cons Tryz.func88 ux <|
 .cons Tryz.func46 ux <|
 .cons Tryz.func45 ux <|
 .cons Tryz.func178 ux <|
 .cons Tryz.func197 ux <|
 .cons Tryz.func177 ux <|
 .cons Tryz.func38 ux <|
 .cons Tryz.func77 ux <|
 .cons Tryz.func33 ux <|
 .cons Tryz.func111 ux <|
 .cons Tryz.func75 ux <|
 .cons Tryz.func31 ux <|
 .cons Tryz.func12 ux <|
 .nil
def exts:FuncId→Option (List D→Option V):=fun f=>if f=n_dk then some (afe) else if f=n_dc then some (t0) else if f=n_dg then some (xTab) else if f=n_cu then some (xSeqN n_c9) else if f=n_cr then some (xSeqN n_da) else none
def iters:FuncId→Option (List D→Option (List (List D))):=fun f=>if f=n_c9 then some (ep) else if f=n_da then some (ep) else none
noncomputable def cfg:Cfg:={funcs:=fnsOf Tryz.prog tbl tab,meth:=fun _ _=>none,glob:=fun _=>none,gobj:=fun _=>none,intTy:=fun _=>false,clip:=fun f=>clips.contains f,ext:=exts,iter:=iters}
noncomputable abbrev X_bg:Kx:=fx cfg 0 [.t 4]
theorem e_bg:Oe cfg n_bg 2 [.t 4] c_bg:=fun _ _ _=>ai (fn:=i_bg) rfl rfl _ _ _
theorem o_bg (x0 x1:D):Of X_bg n_bg [.d x0,.d x1] c_bg:=e_bg 0 _ _ rfl rfl
noncomputable abbrev X_bl:Kx:=fx cfg 0 [.t 2]
theorem e_bl:Oe cfg n_bl 1 [.t 2] c_bl:=fun _ _ _=>ai (fn:=i_bl) rfl rfl _ _ _
theorem o_bl (x0:D):Of X_bl n_bl [.d x0] c_bl:=e_bl 0 _ _ rfl rfl
noncomputable abbrev X_b5:Kx:=fx cfg 0 []
theorem e_b5:Oe cfg n_b5 5 [] c_b5:=fun _ _ _=>ai (fn:=i_b5) rfl rfl _ _ _
noncomputable abbrev X_aj:Kx:=fx cfg 0 [.t 4]
theorem e_aj:Oe cfg n_aj 2 [.t 4] c_aj:=fun _ _ _=>ai (fn:=i_aj) rfl rfl _ _ _
theorem o_aj (x0 x1:D):Of X_aj n_aj [.d x0,.d x1] c_aj:=e_aj 0 _ _ rfl rfl
noncomputable abbrev X_ae:Kx:=fx cfg 0 [.t 6,.t 7]
theorem e_ae:Oe cfg n_ae 3 [.t 6,.t 7] c_ae:=fun _ _ _=>ai (fn:=i_ae) rfl rfl _ _ _
theorem o_ae (x0 x1 x2:D):Of X_ae n_ae [.d x0,.d x1,.d x2] c_ae:=e_ae 0 _ _ rfl rfl
noncomputable abbrev X_ak:Kx:=fx cfg 0 [.t 6]
theorem e_ak:Oe cfg n_ak 3 [.t 6] c_ak:=fun _ _ _=>ai (fn:=i_ak) rfl rfl _ _ _
theorem o_ak (x0 x1 x2:D):Of X_ak n_ak [.d x0,.d x1,.d x2] c_ak:=e_ak 0 _ _ rfl rfl
noncomputable abbrev X_br:Kx:=fx cfg 0 [.t 8,.t 9]
theorem e_br:Oe cfg n_br 4 [.t 8,.t 9] c_br:=fun _ _ _=>ai (fn:=i_br) rfl rfl _ _ _
theorem o_br (x0 x1 x2 x3:D):Of X_br n_br [.d x0,.d x1,.d x2,.d x3] c_br:=e_br 0 _ _ rfl rfl
noncomputable abbrev X_ao:Kx:=fx cfg 0 [.t 2,.t 3,.t 4]
theorem e_ao:Oe cfg n_ao 1 [.t 2,.t 3,.t 4] c_ao:=fun _ _ _=>ai (fn:=i_ao) rfl rfl _ _ _
theorem o_ao (x0:D):Of X_ao n_ao [.d x0] c_ao:=e_ao 0 _ _ rfl rfl
noncomputable abbrev X_av:Kx:=fx cfg 0 [.t 6]
theorem e_av:Oe cfg n_av 3 [.t 6] c_av:=fun _ _ _=>ai (fn:=i_av) rfl rfl _ _ _
theorem o_av (x0 x1 x2:D):Of X_av n_av [.d x0,.d x1,.d x2] c_av:=e_av 0 _ _ rfl rfl
noncomputable abbrev X_cw:Kx:=fx cfg 0 [.t 8]
theorem e_cw:Oe cfg n_cw 4 [.t 8] c_cw:=fun _ _ _=>ai (fn:=i_cw) rfl rfl _ _ _
theorem o_cw (x0 x1 x2 x3:D):Of X_cw n_cw [.d x0,.d x1,.d x2,.d x3] c_cw:=e_cw 0 _ _ rfl rfl
noncomputable abbrev X_bh:Kx:=fx cfg 0 [.t 2]
theorem e_bh:Oe cfg n_bh 1 [.t 2] c_bh:=fun _ _ _=>ai (fn:=i_bh) rfl rfl _ _ _
theorem o_bh (x0:D):Of X_bh n_bh [.d x0] c_bh:=e_bh 0 _ _ rfl rfl
noncomputable abbrev X_cx:Kx:=fx cfg 0 [.t 2]
theorem e_cx:Oe cfg n_cx 1 [.t 2] c_cx:=fun _ _ _=>ai (fn:=i_cx) rfl rfl _ _ _
theorem o_cx (x0:D):Of X_cx n_cx [.d x0] c_cx:=e_cx 0 _ _ rfl rfl
noncomputable abbrev X_cf:Kx:=fx cfg 0 [.t 4]
theorem e_cf:Oe cfg n_cf 2 [.t 4] c_cf:=fun _ _ _=>ai (fn:=i_cf) rfl rfl _ _ _
theorem o_cf (x0 x1:D):Of X_cf n_cf [.d x0,.d x1] c_cf:=e_cf 0 _ _ rfl rfl
noncomputable abbrev X_ap:Kx:=fx cfg 0 [.t 6,.t 7]
theorem e_ap:Oe cfg n_ap 3 [.t 6,.t 7] c_ap:=fun _ _ _=>ai (fn:=i_ap) rfl rfl _ _ _
theorem o_ap (x0 x1 x2:D):Of X_ap n_ap [.d x0,.d x1,.d x2] c_ap:=e_ap 0 _ _ rfl rfl
noncomputable abbrev X_aw:Kx:=fx cfg 0 [.t 6]
theorem e_aw:Oe cfg n_aw 3 [.t 6] c_aw:=fun _ _ _=>ai (fn:=i_aw) rfl rfl _ _ _
theorem o_aw (x0 x1 x2:D):Of X_aw n_aw [.d x0,.d x1,.d x2] c_aw:=e_aw 0 _ _ rfl rfl
noncomputable abbrev X_ce:Kx:=fx cfg 0 [.t 4,.t 5]
theorem e_ce:Oe cfg n_ce 2 [.t 4,.t 5] c_ce:=fun _ _ _=>ai (fn:=i_ce) rfl rfl _ _ _
theorem o_ce (x0 x1:D):Of X_ce n_ce [.d x0,.d x1] c_ce:=e_ce 0 _ _ rfl rfl
noncomputable abbrev X_ck:Kx:=fx cfg 0 [.t 4,.t 5]
theorem e_ck:Oe cfg n_ck 2 [.t 4,.t 5] c_ck:=fun _ _ _=>ai (fn:=i_ck) rfl rfl _ _ _
theorem o_ck (x0 x1:D):Of X_ck n_ck [.d x0,.d x1] c_ck:=e_ck 0 _ _ rfl rfl
noncomputable abbrev X_bc:Kx:=fx cfg 0 [.t 2,.t 3]
theorem e_bc:Oe cfg n_bc 1 [.t 2,.t 3] c_bc:=fun _ _ _=>ai (fn:=i_bc) rfl rfl _ _ _
theorem o_bc (x0:D):Of X_bc n_bc [.d x0] c_bc:=e_bc 0 _ _ rfl rfl
noncomputable abbrev X_bq:Kx:=fx cfg 0 [.t 4]
theorem e_bq:Oe cfg n_bq 2 [.t 4] c_bq:=fun _ _ _=>ai (fn:=i_bq) rfl rfl _ _ _
theorem o_bq (x0 x1:D):Of X_bq n_bq [.d x0,.d x1] c_bq:=e_bq 0 _ _ rfl rfl
noncomputable abbrev X_cy:Kx:=fx cfg 0 [.t 2]
theorem e_cy:Oe cfg n_cy 1 [.t 2] c_cy:=fun _ _ _=>ai (fn:=i_cy) rfl rfl _ _ _
theorem o_cy (x0:D):Of X_cy n_cy [.d x0] c_cy:=e_cy 0 _ _ rfl rfl
noncomputable abbrev X_b9:Kx:=fx cfg 0 [.t 6]
theorem e_b9:Oe cfg n_b9 3 [.t 6] c_b9:=fun _ _ _=>ai (fn:=i_b9) rfl rfl _ _ _
theorem o_b9 (x0 x1 x2:D):Of X_b9 n_b9 [.d x0,.d x1,.d x2] c_b9:=e_b9 0 _ _ rfl rfl
noncomputable abbrev X_au:Kx:=fx cfg 0 []
theorem e_au:Oe cfg n_au 3 [] c_au:=fun _ _ _=>ai (fn:=i_au) rfl rfl _ _ _
noncomputable abbrev X_bx:Kx:=fx cfg 0 [.t 2]
theorem e_bx:Oe cfg n_bx 1 [.t 2] c_bx:=fun _ _ _=>ai (fn:=i_bx) rfl rfl _ _ _
theorem o_bx (x0:D):Of X_bx n_bx [.d x0] c_bx:=e_bx 0 _ _ rfl rfl
noncomputable abbrev X_ab:Kx:=fx cfg 0 [.t 4,.t 5]
theorem e_ab:Oe cfg n_ab 2 [.t 4,.t 5] c_ab:=fun _ _ _=>ai (fn:=i_ab) rfl rfl _ _ _
theorem o_ab (x0 x1:D):Of X_ab n_ab [.d x0,.d x1] c_ab:=e_ab 0 _ _ rfl rfl
noncomputable abbrev X_b8:Kx:=fx cfg 0 [.t 2]
theorem e_b8:Oe cfg n_b8 1 [.t 2] c_b8:=fun _ _ _=>ai (fn:=i_b8) rfl rfl _ _ _
theorem o_b8 (x0:D):Of X_b8 n_b8 [.d x0] c_b8:=e_b8 0 _ _ rfl rfl
noncomputable abbrev X_ag:Kx:=fx cfg 0 [.t 4]
theorem e_ag:Oe cfg n_ag 2 [.t 4] c_ag:=fun _ _ _=>ai (fn:=i_ag) rfl rfl _ _ _
theorem o_ag (x0 x1:D):Of X_ag n_ag [.d x0,.d x1] c_ag:=e_ag 0 _ _ rfl rfl
noncomputable abbrev X_ba:Kx:=fx cfg 0 [.t 4]
theorem e_ba:Oe cfg n_ba 2 [.t 4] c_ba:=fun _ _ _=>ai (fn:=i_ba) rfl rfl _ _ _
theorem o_ba (x0 x1:D):Of X_ba n_ba [.d x0,.d x1] c_ba:=e_ba 0 _ _ rfl rfl
noncomputable abbrev X_bt:Kx:=fx cfg 0 [.t 4]
theorem e_bt:Oe cfg n_bt 2 [.t 4] c_bt:=fun _ _ _=>ai (fn:=i_bt) rfl rfl _ _ _
theorem o_bt (x0 x1:D):Of X_bt n_bt [.d x0,.d x1] c_bt:=e_bt 0 _ _ rfl rfl
noncomputable abbrev X_aq:Kx:=fx cfg 0 [.t 6,.t 7]
theorem e_aq:Oe cfg n_aq 3 [.t 6,.t 7] c_aq:=fun _ _ _=>ai (fn:=i_aq) rfl rfl _ _ _
theorem o_aq (x0 x1 x2:D):Of X_aq n_aq [.d x0,.d x1,.d x2] c_aq:=e_aq 0 _ _ rfl rfl
noncomputable abbrev X_bk:Kx:=fx cfg 0 []
theorem e_bk:Oe cfg n_bk 4 [] c_bk:=fun _ _ _=>ai (fn:=i_bk) rfl rfl _ _ _
noncomputable abbrev X_b7:Kx:=fx cfg 0 [.t 2]
theorem e_b7:Oe cfg n_b7 1 [.t 2] c_b7:=fun _ _ _=>ai (fn:=i_b7) rfl rfl _ _ _
theorem o_b7 (x0:D):Of X_b7 n_b7 [.d x0] c_b7:=e_b7 0 _ _ rfl rfl
noncomputable abbrev X_ay:Kx:=fx cfg 0 [.t 4]
theorem e_ay:Oe cfg n_ay 2 [.t 4] c_ay:=fun _ _ _=>ai (fn:=i_ay) rfl rfl _ _ _
theorem o_ay (x0 x1:D):Of X_ay n_ay [.d x0,.d x1] c_ay:=e_ay 0 _ _ rfl rfl
noncomputable abbrev X_b6:Kx:=fx cfg 0 [.t 4]
theorem e_b6:Oe cfg n_b6 2 [.t 4] c_b6:=fun _ _ _=>ai (fn:=i_b6) rfl rfl _ _ _
theorem o_b6 (x0 x1:D):Of X_b6 n_b6 [.d x0,.d x1] c_b6:=e_b6 0 _ _ rfl rfl
noncomputable abbrev X_bw:Kx:=fx cfg 0 [.t 4]
noncomputable abbrev X_bv:Kx:=fx cfg 0 [.t 8]
theorem e_bv:Oe cfg n_bv 4 [.t 8] c_bv:=fun _ _ _=>ai (fn:=i_bv) rfl rfl _ _ _
theorem o_bv (x0 x1 x2 x3:D):Of X_bv n_bv [.d x0,.d x1,.d x2,.d x3] c_bv:=e_bv 0 _ _ rfl rfl
noncomputable abbrev X_ah:Kx:=fx cfg 0 [.t 4]
theorem e_ah:Oe cfg n_ah 2 [.t 4] c_ah:=fun _ _ _=>ai (fn:=i_ah) rfl rfl _ _ _
theorem o_ah (x0 x1:D):Of X_ah n_ah [.d x0,.d x1] c_ah:=e_ah 0 _ _ rfl rfl
noncomputable abbrev X_cm:Kx:=fx cfg 0 [.t 2]
theorem e_cm:Oe cfg n_cm 1 [.t 2] c_cm:=fun _ _ _=>ai (fn:=i_cm) rfl rfl _ _ _
theorem o_cm (x0:D):Of X_cm n_cm [.d x0] c_cm:=e_cm 0 _ _ rfl rfl
noncomputable abbrev X_ax:Kx:=fx cfg 0 [.t 4]
noncomputable abbrev X_b4:Kx:=fx cfg 0 [.t 2]
theorem e_b4:Oe cfg n_b4 1 [.t 2] c_b4:=fun _ _ _=>ai (fn:=i_b4) rfl rfl _ _ _
theorem o_b4 (x0:D):Of X_b4 n_b4 [.d x0] c_b4:=e_b4 0 _ _ rfl rfl
noncomputable abbrev X_az:Kx:=fx cfg 0 [.t 2]
theorem e_az:Oe cfg n_az 1 [.t 2] c_az:=fun _ _ _=>ai (fn:=i_az) rfl rfl _ _ _
theorem o_az (x0:D):Of X_az n_az [.d x0] c_az:=e_az 0 _ _ rfl rfl
noncomputable abbrev X_am:Kx:=fx cfg 0 [.t 6,.t 7]
theorem e_am:Oe cfg n_am 3 [.t 6,.t 7] c_am:=fun _ _ _=>ai (fn:=i_am) rfl rfl _ _ _
theorem o_am (x0 x1 x2:D):Of X_am n_am [.d x0,.d x1,.d x2] c_am:=e_am 0 _ _ rfl rfl
noncomputable abbrev X_bn:Kx:=fx cfg 0 []
theorem e_bn:Oe cfg n_bn 3 [] c_bn:=fun _ _ _=>ai (fn:=i_bn) rfl rfl _ _ _
noncomputable abbrev X_bp:Kx:=fx cfg 0 []
theorem e_bp:Oe cfg n_bp 2 [] c_bp:=fun _ _ _=>ai (fn:=i_bp) rfl rfl _ _ _
noncomputable abbrev X_af:Kx:=fx cfg 0 [.t 2]
theorem e_af:Oe cfg n_af 1 [.t 2] c_af:=fun _ _ _=>ai (fn:=i_af) rfl rfl _ _ _
theorem o_af (x0:D):Of X_af n_af [.d x0] c_af:=e_af 0 _ _ rfl rfl
noncomputable abbrev X_bo:Kx:=fx cfg 0 [.t 2]
theorem e_bo:Oe cfg n_bo 1 [.t 2] c_bo:=fun _ _ _=>ai (fn:=i_bo) rfl rfl _ _ _
theorem o_bo (x0:D):Of X_bo n_bo [.d x0] c_bo:=e_bo 0 _ _ rfl rfl
noncomputable abbrev X_bz:Kx:=fx cfg 0 [.t 2]
theorem e_bz:Oe cfg n_bz 1 [.t 2] c_bz:=fun _ _ _=>ai (fn:=i_bz) rfl rfl _ _ _
theorem o_bz (x0:D):Of X_bz n_bz [.d x0] c_bz:=e_bz 0 _ _ rfl rfl
noncomputable abbrev X_ai:Kx:=fx cfg 0 [.t 4]
theorem e_ai:Oe cfg n_ai 2 [.t 4] c_ai:=fun _ _ _=>ai (fn:=i_ai) rfl rfl _ _ _
theorem o_ai (x0 x1:D):Of X_ai n_ai [.d x0,.d x1] c_ai:=e_ai 0 _ _ rfl rfl
noncomputable abbrev X_bm:Kx:=fx cfg 0 [.t 4]
theorem e_bm:Oe cfg n_bm 2 [.t 4] c_bm:=fun _ _ _=>ai (fn:=i_bm) rfl rfl _ _ _
theorem o_bm (x0 x1:D):Of X_bm n_bm [.d x0,.d x1] c_bm:=e_bm 0 _ _ rfl rfl
noncomputable abbrev X_cz:Kx:=fx cfg 0 [.t 2]
theorem e_cz:Oe cfg n_cz 1 [.t 2] c_cz:=fun _ _ _=>ai (fn:=i_cz) rfl rfl _ _ _
theorem o_cz (x0:D):Of X_cz n_cz [.d x0] c_cz:=e_cz 0 _ _ rfl rfl
noncomputable abbrev X_ac:Kx:=fx cfg 0 [.cell 8 (some 2),.t 9,.t 10]
theorem e_ac:Oe cfg n_ac 4 [.cell 8 (some 2),.t 9,.t 10] c_ac:=fun _ _ _=>ai (fn:=i_ac) rfl rfl _ _ _
theorem o_ac (x0 x1 x2 x3:D):Of X_ac n_ac [.d x0,.d x1,.d x2,.d x3] c_ac:=e_ac 0 _ _ rfl rfl
noncomputable abbrev X_cg:Kx:=fx cfg 0 [.cell 2 (some 5)]
theorem e_cg:Oe cfg n_cg 1 [.cell 2 (some 5)] c_cg:=fun _ _ _=>ai (fn:=i_cg) rfl rfl _ _ _
theorem o_cg (x0:D):Of X_cg n_cg [.d x0] c_cg:=e_cg 0 _ _ rfl rfl
noncomputable abbrev X_bd:Kx:=fx cfg 0 [.t 2]
theorem e_bd:Oe cfg n_bd 1 [.t 2] c_bd:=fun _ _ _=>ai (fn:=i_bd) rfl rfl _ _ _
theorem o_bd (x0:D):Of X_bd n_bd [.d x0] c_bd:=e_bd 0 _ _ rfl rfl
noncomputable abbrev X_aa:Kx:=fx cfg 0 [.t 4]
theorem e_aa:Oe cfg n_aa 2 [.t 4] c_aa:=fun _ _ _=>ai (fn:=i_aa) rfl rfl _ _ _
theorem o_aa (x0 x1:D):Of X_aa n_aa [.d x0,.d x1] c_aa:=e_aa 0 _ _ rfl rfl
@[go_sem] theorem u_bk:Uc cfg n_bk:=uc rfl
@[go_sem] theorem u_bn:Uc cfg n_bn:=uc rfl
@[go_sem] theorem u_df:Uc cfg n_df:=uc rfl
@[go_sem] theorem u_bh:Uc cfg n_bh:=uc rfl
@[go_sem] theorem u_af:Uc cfg n_af:=uc rfl
@[go_sem] theorem u_bp:Uc cfg n_bp:=uc rfl
@[go_sem] theorem u_am:Uc cfg n_am:=uc rfl
@[go_sem] theorem u_b6:Uc cfg n_b6:=uc rfl
@[go_sem] theorem u_cn:Uc cfg n_cn:=uc rfl
@[go_sem] theorem u_bd:Uc cfg n_bd:=uc rfl
@[go_sem] theorem u_ac:Uc cfg n_ac:=uc rfl
@[go_sem] theorem u_b7:Uc cfg n_b7:=uc rfl
@[go_sem] theorem u_ct:Uc cfg n_ct:=uc rfl
@[go_sem] theorem u_dm:Uc cfg n_dm:=uc rfl
@[go_sem] theorem u_bg:Uc cfg n_bg:=uc rfl
@[go_sem] theorem u_ay:Uc cfg n_ay:=uc rfl
@[go_sem] theorem u_dl:Uc cfg n_dl:=uc rfl
@[go_sem] theorem u_dn:Uc cfg n_dn:=uc rfl
@[go_sem] theorem u_bz:Uc cfg n_bz:=uc rfl
@[go_sem] theorem u_bo:Uc cfg n_bo:=uc rfl
@[go_sem] theorem u_cz:Uc cfg n_cz:=uc rfl
@[go_sem] theorem u_cg:Uc cfg n_cg:=uc rfl
@[go_sem] theorem u_aa:Uc cfg n_aa:=uc rfl
@[go_sem] theorem u_dc:Uc cfg n_dc:=uc rfl
@[go_sem] theorem u_aq:Uc cfg n_aq:=uc rfl
@[go_sem] theorem u_ae:Uc cfg n_ae:=uc rfl
@[go_sem] theorem u_ap:Uc cfg n_ap:=uc rfl
@[go_sem] theorem u_br:Uc cfg n_br:=uc rfl
@[go_sem] theorem u_ao:Uc cfg n_ao:=uc rfl
@[go_sem] theorem u_bt:Uc cfg n_bt:=uc rfl
@[go_sem] theorem u_b8:Uc cfg n_b8:=uc rfl
@[go_sem] theorem u_cf:Uc cfg n_cf:=uc rfl
@[go_sem] theorem u_bl:Uc cfg n_bl:=uc rfl
@[go_sem] theorem u_cw:Uc cfg n_cw:=uc rfl
@[go_sem] theorem u_aw:Uc cfg n_aw:=uc rfl
@[go_sem] theorem u_aj:Uc cfg n_aj:=uc rfl
@[go_sem] theorem u_b5:Uc cfg n_b5:=uc rfl
@[go_sem] theorem u_b4:Uc cfg n_b4:=uc rfl
@[go_sem] theorem u_ax:Uc cfg n_ax:=uc rfl
@[go_sem] theorem u_cm:Uc cfg n_cm:=uc rfl
@[go_sem] theorem u_bv:Uc cfg n_bv:=uc rfl
@[go_sem] theorem u_bw:Uc cfg n_bw:=uc rfl
@[go_sem] theorem u_dg:Uc cfg n_dg:=uc rfl
@[go_sem] theorem u_cx:Uc cfg n_cx:=uc rfl
@[go_sem] theorem u_ak:Uc cfg n_ak:=uc rfl
@[go_sem] theorem u_bq:Uc cfg n_bq:=uc rfl
@[go_sem] theorem u_ce:Uc cfg n_ce:=uc rfl
@[go_sem] theorem u_cy:Uc cfg n_cy:=uc rfl
@[go_sem] theorem u_di:Uc cfg n_di:=uc rfl
@[go_sem] theorem u_dj:Uc cfg n_dj:=uc rfl
@[go_sem] theorem u_av:Uc cfg n_av:=uc rfl
@[go_sem] theorem u_ab:Uc cfg n_ab:=uc rfl
@[go_sem] theorem u_bx:Uc cfg n_bx:=uc rfl
@[go_sem] theorem u_au:Uc cfg n_au:=uc rfl
@[go_sem] theorem u_bc:Uc cfg n_bc:=uc rfl
@[go_sem] theorem u_ck:Uc cfg n_ck:=uc rfl
@[go_sem] theorem u_b9:Uc cfg n_b9:=uc rfl
@[go_sem] theorem u_cu:Uc cfg n_cu:=uc rfl
@[go_sem] theorem u_cr:Uc cfg n_cr:=uc rfl
@[go_sem] theorem u_c8:Uk cfg n_c8:=uk rfl
@[go_sem] theorem u_db:Uk cfg n_db:=uk rfl
@[go_sem] theorem u_az:Uc cfg n_az:=uc rfl
@[go_sem] theorem u_ba:Uc cfg n_ba:=uc rfl
@[go_sem] theorem u_bm:Uc cfg n_bm:=uc rfl
@[go_sem] theorem u_ah:Uc cfg n_ah:=uc rfl
@[go_sem] theorem u_ag:Uc cfg n_ag:=uc rfl
@[go_sem] theorem u_ai:Uc cfg n_ai:=uc rfl
@[go_sem] theorem u_de:Uc cfg n_de:=uc rfl
@[go_sem] theorem u_bu:Uc cfg n_bu:=uc rfl
@[go_sem] theorem u_dh:Uc cfg n_dh:=uc rfl
@[go_sem] theorem u_dk:Uc cfg n_dk:=uc rfl
def a0y:=a3i r_b4_0.eq_1 r_b4_1.eq_1 r_b4_3.eq_1 r_b4_4.eq_1 r_b4_5.eq_1 r_b4_6.eq_1 r_b4_7.eq_1 r_az_0.eq_1
def a0z:=a3i r_az_1.eq_1 r_az_3.eq_1 r_am_0.eq_1 r_am_1.eq_1 r_am_3.eq_1 r_am_5.eq_1 r_am_6.eq_1 r_am_7.eq_1
def a00:=a3i r_am_8.eq_1 avw.eq_1 acs.eq_1 acr.eq_1 acq.eq_1 acp.eq_1 acn.eq_1 r_bn_1.eq_1
def a01:=a3i r_bn_3.eq_1 r_bp_0.eq_1 aub.eq_1 aua.eq_1 at9.eq_1 r_af_0.eq_1 r_bp.eq_1 r_af_2.eq_1
def a02:=a3i r_af_3.eq_1 awv.eq_1 awu.eq_1 aws.eq_1 an9.eq_1 sd.eq_1 sa.eq_1 r9.eq_1
def a03:=a3i r8.eq_1 r_bo_0.eq_1 r_bo_1.eq_1 r_bo_2.eq_1 auh.eq_1 aug.eq_1 auf.eq_1 aud.eq_1
def a04:=a3i auc.eq_1 r_bz_0.eq_1 r_bz_1.eq_1 r_bz_3.eq_1 r_ai_0.eq_1 r_ai_1.eq_1 awh.eq_1 awg.eq_1
def a05:=a3i awf.eq_1 awe.eq_1 awd.eq_1 awc.eq_1 r_bm_0.eq_1 r_bm_1.eq_1 r_cz_0.eq_1 r_cz_1.eq_1
def a06:=a3i r_ac_0.eq_1 r_b7.eq_1 r_ct.eq_1 r_ac_4.eq_1 r_ac_5.eq_1 r_ac_6.eq_1 r_ac_7.eq_1 r_ac_8.eq_1
def a07:=a3i r_ac_9.eq_1 axx.eq_1 axw.eq_1 axv.eq_1 axu.eq_1 axa.eq_1 aw9.eq_1 aw2.eq_1
def a08:=a3i r_cg_0.eq_1 r_cg_1.eq_1 r_bd_0.eq_1 r_bd_1.eq_1 r_bd_2.eq_1 r_bd_3.eq_1 r_bd_4.eq_1 r_bd_5.eq_1
def a09:=a3i r_bd_6.eq_1 r_bd_7.eq_1 r_aa_0.eq_1 r_aa_1.eq_1 r_aa_3.eq_1 r_aa_4.eq_1 r_aa_5.eq_1 r_aa_6.eq_1
def a1a:=a3i r_aa_8.eq_1 r_aa_9.eq_1 axz.eq_1 adz.eq_1 ady.eq_1 adx.eq_1 adw.eq_1 adv.eq_1
def a1b:=a3l adu.eq_1
def a1c:=a3l ads.eq_1
def a1d:=a3l adr.eq_1
def a1e:=a3l adq.eq_1
def a1f:=a3l adp.eq_1
attribute [go_sem] a0o a0p a0q a0r a0s a0t a0u a0v a0w a0x a0y a0z a00 a01 a02 a03 a04 a05 a06 a07 a08 a09 a1a a1b a1c a1d a1e a1f
end Go.Proofs.YtkdiccgfbfbjlaaGreat
