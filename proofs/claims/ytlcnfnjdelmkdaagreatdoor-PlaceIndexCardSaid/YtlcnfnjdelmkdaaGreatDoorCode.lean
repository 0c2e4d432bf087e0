import Derived.Test.YtlcnfnjdelmkdaaGreatDoorL10
import Derived.Test.YtlcnfnjdelmkdaaGreatDoorChecked
import Derived.Test.YtlcnfnjdelmkdaaGreatDoorCodeA
namespace Go.Proofs.YtlcnfnjdelmkdaaGreatDoor
set_option linter.defProp false
open Go.Ev Go
variable {X:Kx} {K:List Kf} {s:St}
def r_em_0:=rg [
by5 2 false] [0]
def r_em_1:=rg [
bzk 3 0,oo 4 (.bin .neq (.t 3) (.c (.str []))),bzk 5 4,bzc 6 5 true 0,og 7 5 true (.call false n_fz [(.t 6),(.c (.str [48,49,50,51,52,53,54,55,56,57]))]),og 8 5 true (.bin .eql (.t 7) (.c (.str []))),bzn 9 5 8,bzq 2 9] [2]
def c_em:ICode:=(.seq r_em_0 (.seq r_em_1 .ret))
def i_em:IFunc:=⟨1,[.t 2],c_em⟩
def a_em:=zzy (zzz 1 [r_em_1,r_em_0])
def r_ck_0:=rg [
oo 4 (.asg (.c (.str []))),oo 5 (.asg (.c (.str []))),by5 6 false] [0,1]
def r_ck_1:=rg [
bzk 8 0,bzk 9 1,by9 10 n_fo [(.t 8),(.t 9)],bzq 7 10] [0,1,7]
def r_ck_2:=rg [
bzk 11 7,by7 12 .geq 11 0] [0,1,7,12]
@[go_sem] def a1i:Ops:=[
bzk 13 0,bzk 14 7,oo 15 (.sliceS (.t 13) none (some (.t 14))),bzk 16 0,bzk 17 7,bzk 18 1,bzh 19 true 18,by8 20 .add 17 19,oo 21 (.sliceS (.t 16) (some (.t 20)) none),bzq 4 15,bzq 5 21,by5 6 true]
def a1j:List (Nat×Nat):=[(0,1),(0,3),(1,3),(2,3),(0,4),(1,4),(2,4),(3,4),(0,5),(1,5),(2,5),(3,5),(4,5),(0,6),(1,6),(2,6),(3,6),(4,6),(0,7),(1,7),(2,7),(3,7),(0,8),(1,8),(2,8),(3,9),(4,9),(5,9),(6,9),(7,9),(8,9)]
def r_ck_3:ICode:= .region a1i a1j [4,5,6]
@[go_sem] theorem r_ck_3_u:Gu X K s r_ck_3 a1j a1i [4,5,6]:=go_regionU' _ _ _ _
def r_ck_4:=rg [
bzk 22 0,bzq 4 22,oo 5 (.asg (.c (.str []))),by5 6 false] [4,5,6]
def c_ck:ICode:=(.seq r_ck_0 (.seq (.seq r_ck_1 (.seq r_ck_2 (.cond (.t 12) (.seq r_ck_3 .ret) .skip))) (.seq r_ck_4 .ret)))
def i_ck:IFunc:=⟨2,[.t 4,.t 5,.t 6],c_ck⟩
def a_ck:=zzy (zzz 4 [r_ck_4,.ret,r_ck_2,r_ck_1,r_ck_0]++[(3,[4,5,6])])
def r_ej_0:=rg [
oo 4 (.asg (.c (.str []))),oo 5 (.asg (.c (.str []))),by5 6 false] [0,1]
def r_ej_1:=rg [
bzk 7 0,bzk 8 1,by9 9 n_ck [(.t 7),(.t 8)],bzr 10 9 0,bzr 11 9 1,bzr 12 9 2,bzq 4 10,bzq 5 11,bzq 6 12] [4,5,6]
def c_ej:ICode:=(.seq r_ej_0 (.seq r_ej_1 .ret))
def i_ej:IFunc:=⟨2,[.t 4,.t 5,.t 6],c_ej⟩
def a_ej:=zzy (zzz 1 [r_ej_1,r_ej_0])
def r_cq_0:=rg [
by5 4 false] [0,1]
def r_cq_1:=rg [
bzk 5 0,bzh 6 true 5,bzk 7 1,bzh 8 true 7,by8 9 .geq 6 8,bzk 10 9,bzc 11 10 true 0,bzc 12 10 true 1,og 13 10 true (.len true (.t 12)),og 14 10 true (.sliceS (.t 11) none (some (.t 13))),bzc 15 10 true 1,og 16 10 true (.bin .eql (.t 14) (.t 15)),bzn 17 10 16,bzq 4 17] [4]
def c_cq:ICode:=(.seq r_cq_0 (.seq r_cq_1 .ret))
def i_cq:IFunc:=⟨2,[.t 4],c_cq⟩
def a_cq:=zzy (zzz 1 [r_cq_1,r_cq_0])
def r_b6_0:=rg [
oo 4 (.asg (.c (.str []))),by5 5 false] [0,1]
def r_b6_1:=rg [
bzk 6 0,bzk 7 1,by9 8 n_cq [(.t 6),(.t 7)],bzm 9 8] [0,1,9]
def r_b6_2:=rg [
bzk 10 0,bzq 4 10,by5 5 false] [4,5]
def r_b6_3:=rg [
bzk 11 0,bzk 12 1,bzh 13 true 12,oo 14 (.sliceS (.t 11) (some (.t 13)) none),bzq 4 14,by5 5 true] [4,5]
def c_b6:ICode:=(.seq r_b6_0 (.seq r_b6_1 (.cond (.t 9) (.seq r_b6_2 .ret) (.seq r_b6_3 .ret))))
def i_b6:IFunc:=⟨2,[.t 4,.t 5],c_b6⟩
def a_b6:=zzy (zzz 3 [r_b6_3,r_b6_2,r_b6_1,r_b6_0])
def r_dc_0:=rg [
oo 4 (.asg (.c (.str []))),by5 5 false] [0,1]
def r_dc_1:=rg [
bzk 6 0,bzk 7 1,by9 8 n_b6 [(.t 6),(.t 7)],bzr 9 8 0,bzr 10 8 1,bzq 4 9,bzq 5 10] [4,5]
def c_dc:ICode:=(.seq r_dc_0 (.seq r_dc_1 .ret))
def i_dc:IFunc:=⟨2,[.t 4,.t 5],c_dc⟩
def a_dc:=zzy (zzz 1 [r_dc_1,r_dc_0])
def r_ay_0:=rg [
by6 4 0,by6 5 0] [0,1]
def r_ay_1:=rg [
bzk 19 1,oo 20 (.minmax true [(.t 19),(ci 0)]),oo 21 (.minmax false [(.t 20),(ci 18)]),bzq 1 21] [0,1]
def r_ay_2:=rg [
bzk 23 0,by9 24 n_dc [(.t 23),(.c (.str [45]))],bzk 22 24,bzr 25 22 0,bzr 26 22 1,bzq 6 25,bzq 7 26] [1,6,7]
def r_ay_3:=rg [
bzk 28 6,by9 29 n_ej [(.t 28),(.c (.str [46]))],bzk 27 29,bzr 30 27 0,bzr 31 27 1,bzr 32 27 2,bzq 8 30,bzq 9 31,bzq 10 32] [1,7,8,9,10]
def r_ay_4:=rg [
bzk 34 8,by9 35 n_em [(.t 34)],bzm 36 35,bzk 37 36,bzc 38 37 false 10,bzc 39 37 false 38,bzc 40 39 true 9,og 41 39 true (.call false n_em [(.t 40)]),og 42 39 true (.un .not (.t 41)),og 43 37 false (.pick (.t 39) (.t 42) (.c (.bool false))),bzo 44 37 43,bzq 33 44] [1,7,8,9,33]
def r_ay_5:=rg [
by6 4 0,by6 5 2] [4,5]
def r_ay_6:=rg [
bzk 46 9,bzh 47 true 46,bzk 48 1,by8 49 .gtr 47 48,bzq 45 49] [1,7,8,9,45]
def r_ay_7:=rg [
by6 4 0,by6 5 4] [4,5]
def r_ay_8:=rg [
by6 11 0] [1,7,8,9,11]
def r_ay_9:=rg [
bzk 50 8,bzk 51 9,by8 52 .add 50 51,bzk 53 1,bzk 54 9,bzh 55 true 54,by8 56 .sub 53 55,by9 57 n_ft [(.c (.str [48])),(.t 56)],by8 58 .add 52 57,oo 59 (.s2b false (.t 58)),bzh 60 false 59,oo 61 (.mv (ci 0))] [7,11,59,60,61]
def apq:=rg [
by8 62 .lss 61 60] [7,11,59,60,61,62]
def app:=rg [
bzf 63 1 59 61,bzi 64 63,bzq 13 64] [7,11,13,59,60,61]
def apo:=rg [
bzk 65 13,oo 66 (.bin .sub (.t 65) (.c (.int .u8 48))),oo 67 (.cvInt .i64 (.t 66)),bzq 14 67] [7,11,14,59,60,61]
def apn:=rg [
bzk 68 7] [7,11,14,59,60,61,68]
def apm:=rg [
bzk 69 14,oo 70 (.un .neg (.t 69)),bzq 14 70] [7,11,14,59,60,61]
def apl:=rg [
bzk 72 11,by9 73 n_ct [(.t 72),(ci 10)],bzk 71 73,bzr 74 71 0,bzr 75 71 1,bzq 15 74,bzq 16 75] [7,14,15,16,59,60,61]
def apk:=rg [
bzk 77 15,bzk 78 14,by9 79 n_dz [(.t 77),(.t 78)],bzk 76 79,bzr 80 76 0,bzr 81 76 1,bzq 17 80,bzq 18 81] [7,16,17,18,59,60,61]
def apj:=rg [
bzk 82 16,bzm 83 82,bzk 84 83,bzc 85 84 false 18,og 86 84 false (.un .not (.t 85)),bzo 87 84 86] [7,17,59,60,61,87]
def api:=rg [
by6 4 0,by6 5 4] [4,5]
def aph:=rg [
bzk 88 17,bzq 11 88] [7,11,59,60,61]
def apg:=rg [
by7 89 .add 61 1,bzk 61 89] [7,11,59,60,61]
def avw:ICode:=(.seq apq (.seq (.cond (.t 62) .skip (.exit 1)) (.seq (.block 2 (.seq app (.seq apo (.seq (.seq apn (.cond (.t 68) apm .skip)) (.seq apl (.seq apk (.seq (.seq apj (.cond (.t 87) (.seq api .ret) .skip)) aph))))))) apg)))
def abi:=bzd avw.eq_1
def apf:=rg [
bzk 90 11,bzq 4 90,by6 5 0] [4,5]
def c_ay:ICode:=(.seq r_ay_0 (.seq r_ay_1 (.seq r_ay_2 (.seq r_ay_3 (.seq (.block 0 (.seq r_ay_4 (.cond (.t 33) (.seq r_ay_5 .ret) (.seq r_ay_6 (.cond (.t 45) (.seq r_ay_7 .ret) .skip))))) (.seq r_ay_8 (.seq (.seq r_ay_9 (.block 1 (.loop avw))) (.seq apf .ret))))))))
def i_ay:IFunc:=⟨2,[.t 4,.t 5],c_ay⟩
def a_ay:=zzy (zzz 20 [apg,aph,api,apj,apk,apl,apm,apn,apo,app,apq,r_ay_9,r_ay_8,r_ay_7,r_ay_6,r_ay_5,r_ay_4,r_ay_3,r_ay_2,r_ay_1,r_ay_0]++[(21,[4,5])])
def r_bm_0:=rg [
by6 4 0,by5 5 false] [0,1]
def r_bm_1:=rg [
bzk 11 0,bzl 12 11,bza 13 8 12,bzi 14 13,bzk 15 1,by9 16 n_en [(.t 14),(.t 15)],bzk 10 16,bzr 17 10 0,bzr 18 10 1,bzq 6 17,bzq 7 18] [0,6,7]
def r_bm_2:=rg [
bzk 19 7,bzm 20 19] [0,6,20]
def r_bm_3:=rg [
by6 4 0,by5 5 false] [4,5]
@[go_sem] def a4v:Ops:=[
bzk 22 6,oo 23 (.b2s (.t 22)),bzk 24 0,bzl 25 24,bza 26 0 25,bza 27 5 26,bzi 28 27,by9 29 n_ay [(.t 23),(.t 28)],bzk 21 29,bzr 30 21 0,bzr 31 21 1,bzq 8 30,bzq 9 31]
def a4w:List (Nat×Nat):=[(0,2),(1,2),(0,3),(1,3),(0,4),(1,4),(0,5),(1,5),(0,6),(1,6),(9,10),(10,11)]
def r_bm_4:ICode:= .region a4v a4w [0,8,9]
@[go_sem] theorem r_bm_4_u:Gu X K s r_bm_4 a4w a4v [0,8,9]:=go_regionU' _ _ _ _
def r_bm_5:=rg [
bzk 32 0,bzk 33 0,bzl 34 33,bza 35 9 34,bzi 36 35,bzk 37 36,bzc 38 37 true 9,og 39 37 true (.bin .eql (.t 38) (ci 0)),bzn 40 37 39,bzl 41 32,bza 42 9 41,bzp 1 42 40] [8]
def r_bm_6:=rg [
bzk 43 8,bzq 4 43,by5 5 true] [4,5]
def c_bm:ICode:=(.seq r_bm_0 (.seq r_bm_1 (.seq r_bm_2 (.cond (.t 20) (.seq r_bm_3 .ret) (.seq r_bm_4 (.seq r_bm_5 (.seq r_bm_6 .ret)))))))
def i_bm:IFunc:=⟨2,[.t 4,.t 5],c_bm⟩
def a_bm:=zzy (zzz 6 [r_bm_6,r_bm_5,.ret,r_bm_3,r_bm_2,r_bm_1,r_bm_0]++[(4,[0,8,9])])
def r_bk_0:=rg [
oo 4 (.asg (.c .nilS)),by6 5 0] [0,1]
def r_bk_1:=rg [
oo 6 (.asg (.c .nilS))] [0,1,6]
def r_bk_2:=rg [
bzk 13 0,bzh 14 false 13,oo 15 (.mv (ci 0))] [1,6,13,14,15]
def bjp:=rg [
by8 16 .lss 15 14] [1,6,13,14,15,16]
def bjo:=rg [
bzf 17 5 13 15,bzj 18 5 17,oo 8 (.alloc [(.int .i64 0),(.int .i64 0),(.int .u64 0),.nilS,(.int .i64 0)]),bzp 5 8 18] [1,6,8,13,14,15]
def bjn:=rg [
bza 20 0 8,bzi 21 20,bzk 22 1,by8 23 .neq 21 22,bzq 19 23] [1,6,8,13,14,15,19]
def bjm:=rg [
bza 25 1 8,bzi 26 25,by7 27 .eql 26 0,bzq 24 27] [1,6,8,13,14,15,24]
def bjl:=rg [
bzk 28 6,bza 29 2 8,bzi 30 29,oo 31 (.lit false 1 1 (.int .u64 0) [(0,(.t 30))]),oo 32 (.append 1 8 (.t 28) (.t 31)),bzq 6 32] [1,6,13,14,15]
def bjk:=rg [
bza 34 1 8,bzi 35 34,by7 36 .eql 35 2,bzq 33 36] [1,6,8,13,14,15,33]
def bjj:=rg [
by6 9 0] [1,6,8,9,13,14,15]
def aox:=rg [
bzk 37 9,bza 38 3 8,bzi 39 38,bzh 40 false 39,by8 41 .lss 37 40] [1,6,8,9,13,14,15,41]
def aow:=rg [
bza 43 3 8,bzi 44 43,bzk 45 9,by9 46 n_cd [(.t 44),(.t 45)],bzk 42 46,bzr 47 42 0,bzr 48 42 1,bzr 49 42 2,bzq 10 47,bzq 11 48,bzq 12 49] [1,6,8,9,10,11,12,13,14,15]
def aov:=rg [
bzk 50 12,by7 51 .neq 50 0] [1,6,8,9,10,11,12,13,14,15,51]
def aou:=rg [
bzk 52 12,oo 4 (.asg (.c .nilS)),bzq 5 52] [4,5]
def aot:=rg [
bzk 53 6,bzk 54 10,oo 55 (.lit false 1 1 (.int .u64 0) [(0,(.t 54))]),oo 56 (.append 1 8 (.t 53) (.t 55)),bzq 6 56] [1,6,8,9,11,13,14,15]
def aos:=rg [
bzk 57 9,bzk 58 11,by8 59 .add 57 58,bzq 9 59] [1,6,8,9,13,14,15]
def xx:ICode:=(.seq (.seq aox (.cond (.t 41) .skip (.exit 3))) (.block 4 (.seq aow (.seq (.seq aov (.cond (.t 51) (.seq aou .ret) .skip)) (.seq aot aos)))))
def bt3:=bzd xx.eq_1
def wo:=rg [
by7 60 .add 15 1,bzk 15 60] [1,6,13,14,15]
def te:ICode:=(.seq bjp (.seq (.cond (.t 16) .skip (.exit 0)) (.seq (.block 1 (.seq (.seq (.free 8) bjo) (.block 2 (.seq bjn (.cond (.t 19) .skip (.seq bjm (.cond (.t 24) bjl (.seq bjk (.cond (.t 33) (.seq bjj (.block 3 (.loop xx))) .skip))))))))) wo)))
def bt4:=bzd te.eq_1
def wl:=rg [
bzk 61 6,by9 62 n_fq [(.t 61)],bzq 4 62,by6 5 0] [4,5]
def c_bk:ICode:=(.seq r_bk_0 (.seq r_bk_1 (.seq (.seq r_bk_2 (.block 0 (.loop te))) (.seq wl .ret))))
def i_bk:IFunc:=⟨2,[.t 4,.t 5],c_bk⟩
def a_bk:Advice:=⟨[32,56],zzz 15 [aos,aot,aou,aov,aow,aox,bjj,bjk,bjl,bjm,bjn,bjo,bjp,r_bk_2,r_bk_1,r_bk_0]++[(17,[4,5]),(16,[1,6,13,14,15])],[],[(4,[8])],[],[]⟩
def r_cr_0:=rg [
oo 4 (.asg (.c .nilS)),oo 5 (.asg (.c .nilS)),by5 6 false] [0,1]
def r_cr_1:=rg [
bzk 10 1,oo 11 (.callv false (.t 10) [(ci 1)]),bzk 9 11,bzr 12 9 0,bzr 13 9 1,bzq 4 12,bzq 7 13] [0,1,4,7]
def r_cr_2:=rg [
bzk 15 1,oo 16 (.callv false (.t 15) [(ci 2)]),bzk 14 16,bzr 17 14 0,bzr 18 14 1,bzq 5 17,bzq 8 18] [0,4,5,7,8]
def r_cr_3:=rg [
bzk 19 0,bzk 20 0,bzl 21 20,bza 22 9 21,bzi 23 22,bzk 24 23,bzc 25 24 true 7,bzc 26 24 true 8,og 27 24 true (.eqn false .bool (.t 25) (.t 26)),bzn 28 24 27,bzl 29 19,bza 30 9 29,bzp 1 30 28] [4,5,7]
def r_cr_4:=rg [
bzk 31 4,bzk 32 5,bzk 33 7,bzq 4 31,bzq 5 32,bzq 6 33] [4,5,6]
def c_cr:ICode:=(.seq r_cr_0 (.seq r_cr_1 (.seq r_cr_2 (.seq r_cr_3 (.seq r_cr_4 .ret)))))
def i_cr:IFunc:=⟨2,[.t 4,.t 5,.t 6],c_cr⟩
def a_cr:=zzy (zzz 4 [r_cr_4,r_cr_3,r_cr_2,r_cr_1,r_cr_0])
def r_dl_0:=rg [
oo 4 (.asg (.c .nilS)),by5 5 false] [0,1]
def r_dl_1:=rg [
bzk 6 0,bzl 7 6,bza 8 8 7,bzi 9 8,bzk 10 1,by9 11 n_en [(.t 9),(.t 10)],bzr 12 11 0,bzr 13 11 1,bzq 4 12,bzq 5 13] [4,5]
def c_dl:ICode:=(.seq r_dl_0 (.seq r_dl_1 .ret))
def i_dl:IFunc:=⟨2,[.t 4,.t 5],c_dl⟩
def a_dl:=zzy (zzz 1 [r_dl_1,r_dl_0])
def r_co_0:=rg [
by6 4 0,by6 5 0,by5 6 false] [0,1]
def r_co_1:=rg [
bzk 10 1,oo 11 (.callv false (.t 10) [(ci 1)]),bzk 9 11,bzr 12 9 0,bzr 13 9 1,bzq 4 12,bzq 7 13] [0,1,4,7]
def r_co_2:=rg [
bzk 15 1,oo 16 (.callv false (.t 15) [(ci 2)]),bzk 14 16,bzr 17 14 0,bzr 18 14 1,bzq 5 17,bzq 8 18] [0,4,5,7,8]
def r_co_3:=rg [
bzk 19 0,bzk 20 0,bzl 21 20,bza 22 9 21,bzi 23 22,bzk 24 23,bzc 25 24 true 7,bzc 26 24 true 8,og 27 24 true (.eqn false .bool (.t 25) (.t 26)),bzn 28 24 27,bzl 29 19,bza 30 9 29,bzp 1 30 28] [4,5,7]
def r_co_4:=rg [
bzk 31 4,bzk 32 5,bzk 33 7,bzq 4 31,bzq 5 32,bzq 6 33] [4,5,6]
def c_co:ICode:=(.seq r_co_0 (.seq r_co_1 (.seq r_co_2 (.seq r_co_3 (.seq r_co_4 .ret)))))
def i_co:IFunc:=⟨2,[.t 4,.t 5,.t 6],c_co⟩
def a_co:=zzy (zzz 4 [r_co_4,r_co_3,r_co_2,r_co_1,r_co_0])
def r_e9_0:=rg [
by6 2 0] [0]
def r_e9_1:=rg [
bzk 3 0,oo 4 (.bin .shr (.t 3) (.c (.int .u64 1))),oo 5 (.cvInt .i64 (.t 4)),bzk 6 0,oo 7 (.bin .and (.t 6) (.c (.int .u64 1))),oo 8 (.cvInt .i64 (.t 7)),oo 9 (.un .neg (.t 8)),by8 10 .xor 5 9,bzq 2 10] [2]
def c_e9:ICode:=(.seq r_e9_0 (.seq r_e9_1 .ret))
def i_e9:IFunc:=⟨1,[.t 2],c_e9⟩
def a_e9:=zzy (zzz 1 [r_e9_1,r_e9_0])
def r_fa_0:=rg [
by6 4 0,by5 5 false] [0,1]
def r_fa_1:=rg [
bzk 9 0,bzk 10 1,by9 11 n_dr [(.t 9),(.t 10),(ci 0)],bzk 8 11,bzr 12 8 0,bzr 13 8 1,oo 6 (.alloc [(.int .i64 0),(.int .i64 0),(.int .u64 0),.nilS,(.int .i64 0)]),bzp 5 6 12,bzq 7 13] [6,7]
def r_fa_2:=rg [
bza 14 2 6,bzi 15 14,by9 16 n_e9 [(.t 15)],bzk 17 7,bzq 4 16,bzq 5 17] [4,5]
def c_fa:ICode:=(.seq r_fa_0 (.seq r_fa_1 (.seq r_fa_2 .ret)))
def i_fa:IFunc:=⟨2,[.t 4,.t 5],c_fa⟩
def a_fa:=zzy (zzz 2 [r_fa_2,r_fa_1,r_fa_0])
def r_de_0:=rg [
by6 4 0,by5 5 false] [0,1]
def r_de_1:=rg [
bzk 6 0,bzl 7 6,bza 8 8 7,bzi 9 8,bzk 10 1,by9 11 n_fa [(.t 9),(.t 10)],bzr 12 11 0,bzr 13 11 1,bzq 4 12,bzq 5 13] [4,5]
def c_de:ICode:=(.seq r_de_0 (.seq r_de_1 .ret))
def i_de:IFunc:=⟨2,[.t 4,.t 5],c_de⟩
def a_de:=zzy (zzz 1 [r_de_1,r_de_0])
def r_aj_0:=rg [
by6 4 0] [0,1]
def r_aj_1:=rg [
bzk 7 0,bzl 8 7,bza 9 0 8,bza 10 0 9,bzi 11 10,by9 12 n_bc [(.t 11)]] [0,1,12]
def r_aj_2:=rg [
by7 14 .eql 12 2,bzq 13 14] [0,1,12,13]
def r_aj_3:=rg [
by7 16 .eql 12 7,bzq 15 16] [0,1,12,15]
def r_aj_4:=rg [
by7 18 .eql 12 4,bzq 17 18] [0,1,12,17]
def r_aj_5:=rg [
by7 20 .eql 12 5,bzq 19 20] [0,1,12,19]
def r_aj_6:=rg [
by7 22 .eql 12 6,bzq 21 22] [0,1,12,21]
def r_aj_7:=rg [
by7 24 .eql 12 8,bzq 23 24] [0,1,12,23]
def r_aj_8:=rg [
by7 26 .eql 12 9,bzq 25 26] [0,1,25]
def r_aj_9:=rg [
bzk 28 1,bzk 29 1,bzk 30 0,by9 31 n_de [(.t 30),(ci 3)],bzk 27 31,bzr 32 27 0,bzr 33 27 1,bzl 34 28,bza 35 14 34,bzp 1 35 32,bzl 36 29,bza 37 13 36,bzp 1 37 33] [0,1]
def bnr:=rg [
bzk 39 1,bzk 40 1,bzk 41 1,bzk 42 0,bzk 43 0,oo 44 (.mkF n_de [(.t 43)] []),by9 45 n_co [(.t 42),(.t 44)],bzk 38 45,bzr 46 38 0,bzr 47 38 1,bzr 48 38 2,bzl 49 39,bza 50 3 49,bza 51 1 50,bzp 1 51 46,bzl 52 40,bza 53 8 52,bza 54 1 53,bzp 1 54 47,bzl 55 41,bza 56 2 55,bzp 1 56 48] []
def bnq:=rg [
bzk 58 1,bzk 59 1,bzk 60 1,bzk 61 0,bzk 62 0,oo 63 (.mkF n_dl [(.t 62)] []),by9 64 n_cr [(.t 61),(.t 63)],bzk 57 64,bzr 65 57 0,bzr 66 57 1,bzr 67 57 2,bzl 68 58,bza 69 3 68,bza 70 3 69,bzp 1 70 65,bzl 71 59,bza 72 8 71,bza 73 3 72,bzp 1 73 66,bzl 74 60,bza 75 2 74,bzp 1 75 67] [0,1]
def bnp:=rg [
bzk 77 1,bzk 78 1,bzk 79 0,by9 80 n_de [(.t 79),(ci 3)],bzk 76 80,bzr 81 76 0,bzr 82 76 1,bzl 83 77,bza 84 14 83,bzp 1 84 81,bzl 85 78,bza 86 13 85,bzp 1 86 82] []
def bno:=rg [
bzk 88 0,bzl 89 88,bza 90 8 89,bzi 91 90,by9 92 n_bk [(.t 91),(ci 1)],bzk 87 92,bzr 93 87 0,bzr 94 87 1,bzq 5 93,bzq 6 94] [0,1,5,6]
def bnn:=rg [
bzk 95 6,by7 96 .neq 95 0] [0,1,5,6,96]
def bnm:=rg [
bzk 97 6,bzq 4 97] [4]
def bnl:=rg [
bzk 98 0,bzk 99 5,bzh 100 false 99,by7 101 .leq 100 1,bzl 102 98,bza 103 9 102,bzp 1 103 101] [0,1,5]
def bnk:=rg [
bzk 104 5,bzh 105 false 104,by7 106 .eql 105 1] [0,1,5,106]
def bnj:=rg [
bzk 107 0,bzk 108 5,oo 109 (.idxA 1 (.t 108) (ci 0)),bzi 110 109,oo 111 (.bin .leq (.t 110) (.c (.int .u64 262144))),bzl 112 107,bza 113 9 112,bzp 1 113 111] [1,5]
def bni:=rg [
bzk 114 1,bzk 115 1,bzk 116 5,oo 117 (.idxA 1 (.t 116) (ci 0)),bzi 118 117,oo 119 (.cvInt .i64 (.t 118)),bzl 120 114,bza 121 14 120,bzp 1 121 119,bzl 122 115,bza 123 13 122,ow (.store 1 (.t 123) (.c (.bool true)))] []
def bnh:=rg [
bzk 125 1,bzk 126 1,bzk 127 1,bzk 128 0,bzk 129 0,oo 130 (.mkF n_bm [(.t 129)] []),by9 131 n_co [(.t 128),(.t 130)],bzk 124 131,bzr 132 124 0,bzr 133 124 1,bzr 134 124 2,bzl 135 125,bza 136 3 135,bza 137 1 136,bzp 1 137 132,bzl 138 126,bza 139 8 138,bza 140 1 139,bzp 1 140 133,bzl 141 127,bza 142 2 141,bzp 1 142 134] [0,1]
def bng:=rg [
bzk 144 1,bzk 145 1,bzk 146 0,by9 147 n_bm [(.t 146),(ci 3)],bzk 143 147,bzr 148 143 0,bzr 149 143 1,bzl 150 144,bza 151 14 150,bzp 1 151 148,bzl 152 145,bza 153 13 152,bzp 1 153 149] []
def bnf:=rg [
bzk 155 1,bzk 156 1,bzk 157 0,by9 158 n_de [(.t 157),(ci 1)],bzk 154 158,bzr 159 154 0,bzr 160 154 1,bzl 161 155,bza 162 14 161,bzp 1 162 159,bzl 163 156,bza 164 13 163,bzp 1 164 160] []
def bnd:=rg [
bzk 166 1,bzk 167 1,bzk 168 1,bzk 169 0,bzk 170 0,oo 171 (.mkF n_de [(.t 170)] []),by9 172 n_co [(.t 169),(.t 171)],bzk 165 172,bzr 173 165 0,bzr 174 165 1,bzr 175 165 2,bzl 176 166,bza 177 3 176,bza 178 1 177,bzp 1 178 173,bzl 179 167,bza 180 8 179,bza 181 1 180,bzp 1 181 174,bzl 182 168,bza 183 2 182,bzp 1 183 175] [0,1]
@[go_sem] def aes:Ops:=[
bzk 184 1,bzk 185 1,bzk 186 0,bzk 187 1,bzl 188 187,bza 189 2 188,bzi 190 189,by9 191 n_cf [(.t 186),(ci 3),(.t 190)],bzk 192 0,bzk 193 1,bzl 194 193,bza 195 2 194,bzi 196 195,by9 197 n_cf [(.t 192),(ci 4),(.t 196)],bzl 198 184,bza 199 3 198,bza 200 2 199,bzp 1 200 191,bzl 201 185,bza 202 8 201,bza 203 2 202,bzp 1 203 197]
def aet:List (Nat×Nat):=[(0,1),(0,2),(1,2),(0,3),(1,3),(2,3),(0,4),(1,4),(2,4),(0,5),(1,5),(2,5),(0,6),(1,6),(2,6),(0,7),(1,7),(0,8),(1,8),(2,8),(3,8),(4,8),(5,8),(6,8),(7,8),(0,9),(1,9),(2,9),(3,9),(4,9),(5,9),(6,9),(7,9),(8,9),(0,10),(1,10),(2,10),(3,10),(4,10),(5,10),(6,10),(7,10),(8,10),(0,11),(1,11),(2,11),(3,11),(4,11),(5,11),(6,11),(7,11),(8,11),(0,12),(1,12),(2,12),(3,12),(4,12),(5,12),(6,12),(7,12),(8,12),(0,13),(1,13),(1,14),(1,15),(1,16),(1,17)]
def bnc:ICode:= .region aes aet []
@[go_sem] theorem r_aj_24_u:Gu X K s bnc aet aes []:=go_regionU' _ _ _ _
def bnb:=rg [
by6 4 0] [4]
def c_aj:ICode:=(.seq r_aj_0 (.seq (.seq r_aj_1 (.block 0 (.seq (.block 7 (.seq (.block 6 (.seq (.block 5 (.seq (.block 4 (.seq (.block 3 (.seq (.block 2 (.seq (.block 1 (.seq (.seq (.seq r_aj_2 (.cond (.t 13) (.exit 1) .skip)) (.seq (.seq r_aj_3 (.cond (.t 15) (.exit 2) .skip)) (.seq (.seq r_aj_4 (.cond (.t 17) (.exit 3) .skip)) (.seq (.seq r_aj_5 (.cond (.t 19) (.exit 4) .skip)) (.seq (.seq r_aj_6 (.cond (.t 21) (.exit 5) .skip)) (.seq (.seq r_aj_7 (.cond (.t 23) (.exit 6) .skip)) (.seq r_aj_8 (.cond (.t 25) (.exit 7) .skip)))))))) (.exit 0))) r_aj_9)) (.seq bnr (.exit 0)))) (.seq (.seq bnq bnp) (.exit 0)))) (.seq (.seq bno (.seq (.seq bnn (.cond (.t 96) (.seq bnm .ret) .skip)) (.seq bnl (.seq bnk (.cond (.t 106) (.seq bnj bni) .skip))))) (.exit 0)))) (.seq (.seq bnh bng) (.exit 0)))) (.seq bnf (.exit 0)))) (.seq (.seq bnd bnc) (.exit 0))))) (.seq bnb .ret)))
def i_aj:IFunc:=⟨2,[.t 4],c_aj⟩
def a_aj:=zzy (zzz 25 [bnb,.ret,bnd,bnf,bng,bnh,bni,bnj,bnk,bnl,bnm,bnn,bno,bnp,bnq,bnr,r_aj_9,r_aj_8,r_aj_7,r_aj_6,r_aj_5,r_aj_4,r_aj_3,r_aj_2,r_aj_1,r_aj_0]++[(24,[])])
def r_ak_0:=rg [
oo 2 (.box 8 (.t 0)),oo 4 (.alloc [(.int .i64 0),(.bool false),(.bool false),(.bool false),(.int .i64 0),(.int .i64 0),.nilS,.nilS,(.bool false),(.int .i64 0),(.int .i64 0),.nilS,.nilS,(.bool false),(.int .i64 0)]),by6 5 0] [1,2,4]
def r_ak_1:=rg [
bzk 19 1,by9 20 n_b5 [(.t 19)],bzk 18 20,bzr 21 18 0,bzr 22 18 1,bzq 6 21,bzq 7 22] [2,4,6,7]
def r_ak_2:=rg [
bzk 23 7,by7 24 .neq 23 0] [2,4,6,7,24]
def r_ak_3:=rg [
oo 25 (.build [(.int .i64 0),(.bool false),(.bool false),(.bool false),(.int .i64 0),(.int .i64 0),.nilS,.nilS,(.bool false),(.int .i64 0),(.int .i64 0),.nilS,.nilS,(.bool false),(.int .i64 0)] []),bzk 26 7,bzp 15 4 25,bzq 5 26] [4,5]
def r_ak_4:=rg [
bzk 28 6,by9 29 n_ey [(.t 28),(ci 1)],bzk 27 29,bzr 30 27 0,bzr 31 27 1,bzq 8 30,bzq 9 31] [2,4,6,8]
def r_ak_5:=rg [
bzk 33 6,by9 34 n_ey [(.t 33),(ci 10)],bzk 32 34,bzr 35 32 0,bzr 36 32 1,bzq 10 35,bzq 11 36] [2,4,6,8,10]
def r_ak_6:=rg [
bzk 37 8,oo 38 (.bin .gtr (.t 37) (.c (.int .u64 262144)))] [2,4,6,8,10,38]
def r_ak_7:=rg [
oo 39 (.build [(.int .i64 0),(.bool false),(.bool false),(.bool false),(.int .i64 0),(.int .i64 0),.nilS,.nilS,(.bool false),(.int .i64 0),(.int .i64 0),.nilS,.nilS,(.bool false),(.int .i64 0)] []),bzp 15 4 39,by6 5 2] [4,5]
def r_ak_8:=rg [
bzk 40 8,oo 41 (.cvInt .i64 (.t 40)),bzk 42 10,oo 43 (.bin .neq (.t 42) (.c (.int .u64 0))),oo 44 (.build [(.int .i64 0),(.bool false),(.bool false),(.bool false),(.int .i64 0),(.int .i64 0),.nilS,.nilS,(.bool false),(.int .i64 0),(.int .i64 0),.nilS,.nilS,(.bool false),(.int .i64 0)] [(0,1,(.t 41)),(1,1,(.t 43))]),oo 12 (.alloc [(.int .i64 0),(.bool false),(.bool false),(.bool false),(.int .i64 0),(.int .i64 0),.nilS,.nilS,(.bool false),(.int .i64 0),(.int .i64 0),.nilS,.nilS,(.bool false),(.int .i64 0)]),bzp 15 12 44] [2,4,6,12]
def r_ak_9:=rg [
bza 45 0 2,bzi 46 45,by9 47 n_bc [(.t 46)],bzq 13 47] [2,4,6,12,13]
def bna:=rg [
bzk 49 6,bzk 50 13,by9 51 n_en [(.t 49),(.t 50)],bzk 48 51,bzr 52 48 0,bzr 53 48 1,bzq 14 52,bzq 15 53] [2,4,12,13,14,15]
def bm9:=rg [
bzk 54 13,by7 55 .eql 54 0,bzk 56 55,bzc 57 56 false 15,og 58 56 false (.un .not (.t 57)),bzo 59 56 58] [2,4,12,14,59]
def bm8:=rg [
bzj 60 15 12,bzp 15 4 60,by6 5 0] [4,5]
def bm7:=rg [
bzj 61 8 2,oo 62 (.build [(.int .i64 0),.nilS,.nilS,(.int .i64 0),(.int .i64 0),(.int .i64 0),(.int .i64 0),(.int .i64 0),.nilS,(.bool false)] [(0,8,(.t 61)),(9,1,(.c (.bool true)))]),oo 63 (.box 10 (.t 62)),bzq 16 63] [2,4,12,14,16]
def bm6:=rg [
bzk 65 16,bzk 66 14,by9 67 n_b5 [(.t 66)],bzk 64 67,bzr 68 64 0,bzr 69 64 1,bzl 70 65,bza 71 8 70,bzp 1 71 68,bzq 7 69] [2,4,7,12,16]
def bm5:=rg [
bzk 72 7,by7 73 .neq 72 0] [2,4,7,12,16,73]
def bm4:=rg [
oo 74 (.build [(.int .i64 0),(.bool false),(.bool false),(.bool false),(.int .i64 0),(.int .i64 0),.nilS,.nilS,(.bool false),(.int .i64 0),(.int .i64 0),.nilS,.nilS,(.bool false),(.int .i64 0)] []),bzk 75 7,bzp 15 4 74,bzq 5 75] [4,5]
def bm3:=rg [
bzk 76 16,by9 77 n_aj [(.t 76),(.t 12)],bzq 17 77] [2,4,12,16,17]
def bm2:=rg [
bzk 78 17,by7 79 .neq 78 0] [2,4,12,16,17,79]
def bm1:=rg [
oo 80 (.build [(.int .i64 0),(.bool false),(.bool false),(.bool false),(.int .i64 0),(.int .i64 0),.nilS,.nilS,(.bool false),(.int .i64 0),(.int .i64 0),.nilS,.nilS,(.bool false),(.int .i64 0)] []),bzk 81 17,bzp 15 4 80,bzq 5 81] [4,5]
@[go_sem] def aef:Ops:=[
bzk 82 16,bzl 83 82,bza 84 9 83,bzi 85 84,bzm 86 85,bzk 87 86,og 88 87 false (.fieldA 2 (.t 12)),og 89 87 false (.load none (.t 88)),bzc 90 87 false 89,og 91 90 true (.load (some 8) (.t 2)),og 92 90 true (.call false n_ez [(.t 91)]),og 93 90 true (.fieldA 3 (.t 12)),og 94 90 true (.load (some 5) (.t 93)),og 95 90 true (.call false n_ax [(.t 92),(.t 94)]),og 96 90 true (.bin .neq (.t 95) (ci 0)),bzc 97 90 true 96,og 98 97 false (.load (some 8) (.t 2)),og 99 97 false (.call false n_ez [(.t 98)]),og 100 97 false (.fieldA 8 (.t 12)),og 101 97 false (.load (some 5) (.t 100)),og 102 97 false (.call false n_ax [(.t 99),(.t 101)]),og 103 97 false (.bin .neq (.t 102) (ci 0)),og 104 90 true (.pick (.t 97) (.c (.bool true)) (.t 103)),og 105 87 false (.pick (.t 90) (.t 104) (.c (.bool false))),bzo 106 87 105]
def aeg:List (Nat×Nat):=[(9,11),(10,11),(9,12),(10,12),(16,18),(17,18),(16,19),(17,19)]
def bm0:ICode:= .region aef aeg [4,12,106]
@[go_sem] theorem r_ak_20_u:Gu X K s bm0 aeg aef [4,12,106]:=go_regionU' _ _ _ _
def bmz:=rg [
oo 107 (.build [(.int .i64 0),(.bool false),(.bool false),(.bool false),(.int .i64 0),(.int .i64 0),.nilS,.nilS,(.bool false),(.int .i64 0),(.int .i64 0),.nilS,.nilS,(.bool false),(.int .i64 0)] []),bzp 15 4 107,by6 5 2] [4,5]
def bmy:=rg [
bza 108 13 12,bzi 109 108,bzm 110 109] [4,12,110]
def bmx:=rg [
bza 111 14 12,ow (.store 1 (.t 111) (ci 0))] [4,12]
def bmw:=rg [
bzj 112 15 12,bzp 15 4 112,by6 5 0] [4,5]
def c_ak:ICode:=(.seq r_ak_0 (.seq r_ak_1 (.seq r_ak_2 (.cond (.t 24) (.seq r_ak_3 .ret) (.seq r_ak_4 (.seq r_ak_5 (.seq r_ak_6 (.cond (.t 38) (.seq r_ak_7 .ret) (.seq r_ak_8 (.seq r_ak_9 (.seq bna (.seq bm9 (.cond (.t 59) (.seq bm8 .ret) (.seq bm7 (.seq (.seq bm6 (.seq bm5 (.cond (.t 73) (.seq bm4 .ret) .skip))) (.seq (.seq bm3 (.seq bm2 (.cond (.t 79) (.seq bm1 .ret) .skip))) (.seq bm0 (.cond (.t 106) (.seq bmz .ret) (.seq (.seq bmy (.cond (.t 110) bmx .skip)) (.seq bmw .ret))))))))))))))))))))
def i_ak:IFunc:=⟨2,[.cell 4 (some 15),.t 5],c_ak⟩
def a_ak:=zzy (zzz 24 [bmw,bmx,bmy,bmz,.ret,bm1,bm2,bm3,bm4,bm5,bm6,bm7,bm8,bm9,bna,r_ak_9,r_ak_8,r_ak_7,r_ak_6,r_ak_5,r_ak_4,r_ak_3,r_ak_2,r_ak_1,r_ak_0]++[(20,[4,12,106])])
def r_en_0:=rg [
oo 4 (.asg (.c .nilS)),by5 5 false] [0,1]
def r_en_1:=rg [
bzk 9 0,bzk 10 1,by9 11 n_dr [(.t 9),(.t 10),(ci 2)],bzk 8 11,bzr 12 8 0,bzr 13 8 1,oo 6 (.alloc [(.int .i64 0),(.int .i64 0),(.int .u64 0),.nilS,(.int .i64 0)]),bzp 5 6 12,bzq 7 13] [6,7]
def r_en_2:=rg [
bza 14 3 6,bzi 15 14,by9 16 n_bx [(.t 15)],by9 17 n_fh [(.t 16)],bzk 18 7,bzq 4 17,bzq 5 18] [4,5]
def c_en:ICode:=(.seq r_en_0 (.seq r_en_1 (.seq r_en_2 .ret)))
def i_en:IFunc:=⟨2,[.t 4,.t 5],c_en⟩
def a_en:=zzy (zzz 2 [r_en_2,r_en_1,r_en_0])
def r_dn_0:=rg [
oo 4 (.asg (.c .nilS))] [0,1]
def r_dn_1:=rg [
oo 5 (.asg (.c .nilS))] [0,1,5]
def r_dn_2:=rg [
bzk 8 0,bzh 9 false 8,oo 10 (.mv (ci 0))] [1,5,8,9,10]
def bia:=rg [
by8 11 .lss 10 9] [1,5,8,9,10,11]
def bh9:=rg [
bzf 12 5 8 10,bzj 13 5 12,oo 7 (.alloc [(.int .i64 0),(.int .i64 0),(.int .u64 0),.nilS,(.int .i64 0)]),bzp 5 7 13] [1,5,7,8,9,10]
def bh8:=rg [
bza 14 0 7,bzi 15 14,bzk 16 1,by8 17 .eql 15 16,bzk 18 17,og 19 18 true (.fieldA 1 (.t 7)),og 20 18 true (.load none (.t 19)),og 21 18 true (.bin .eql (.t 20) (ci 2)),bzn 22 18 21] [1,5,7,8,9,10,22]
def bh7:=rg [
bzk 23 5,bza 24 3 7,bzi 25 24,by9 26 n_bx [(.t 25)],by9 27 n_fh [(.t 26)],oo 28 (.lit false 1 1 (.sl []) [(0,(.t 27))]),oo 29 (.append 1 24 (.t 23) (.t 28)),bzq 5 29] [1,5,8,9,10]
def bh6:=rg [
by7 30 .add 10 1,bzk 10 30] [1,5,8,9,10]
def btq:ICode:=(.seq bia (.seq (.cond (.t 11) .skip (.exit 0)) (.seq (.block 1 (.seq (.seq (.free 7) bh9) (.seq bh8 (.cond (.t 22) bh7 .skip)))) bh6)))
def bt5:=bzd btq.eq_1
def bh5:=rg [
bzk 31 5,by9 32 n_fv [(.t 31)],bzq 4 32] [4]
def c_dn:ICode:=(.seq r_dn_0 (.seq r_dn_1 (.seq (.seq r_dn_2 (.block 0 (.loop btq))) (.seq bh5 .ret))))
def i_dn:IFunc:=⟨2,[.t 4],c_dn⟩
def a_dn:Advice:=⟨[29],zzz 7 [bh6,bh7,bh8,bh9,bia,r_dn_2,r_dn_1,r_dn_0]++[(8,[4])],[],[(4,[7])],[],[]⟩
def r_al_0:=rg [
oo 2 (.box 8 (.t 0)),oo 4 (.asg (.c .nilS)),by6 5 0] [1,2]
def r_al_1:=rg [
bzk 18 1,by9 19 n_b5 [(.t 18)],bzk 17 19,bzr 20 17 0,bzr 21 17 1,bzq 6 20,bzq 7 21] [2,6,7]
def r_al_2:=rg [
bzk 22 7,by7 23 .neq 22 0] [2,6,7,23]
def r_al_3:=rg [
bzk 24 7,oo 4 (.asg (.c .nilS)),bzq 5 24] [4,5]
def r_al_4:=rg [
bzk 25 6,by9 26 n_dn [(.t 25),(ci 1)],bzq 8 26] [2,8]
def r_al_5:=rg [
bzk 27 8,bzh 28 false 27,by7 29 .gtr 28 4096] [2,8,29]
@[go_sem] def r_al_6_o:Ops:=[
oo 4 (.asg (.c .nilS)),by6 5 4]
def r_al_6:=rg r_al_6_o [4,5]
def r_al_7:=rg [
oo 9 (.asg (.c .nilS))] [2,8,9]
def r_al_8:=rg [
bzk 30 8,bzh 31 false 30,oo 32 (.mv (ci 0))] [2,9,30,31,32]
def bmv:=rg [
by8 33 .lss 32 31] [2,9,30,31,32,33]
def aq0:=rg [
bzf 34 1 30 32,bzi 35 34,bzq 11 35] [2,9,11,30,31,32]
def aqz:=rg [
bzk 37 11,by9 38 n_b5 [(.t 37)],bzk 36 38,bzr 39 36 0,bzr 40 36 1,bzq 12 39,bzq 13 40] [2,9,12,13,30,31,32]
def aqy:=rg [
bzk 41 13,by7 42 .neq 41 0] [2,9,12,13,30,31,32,42]
def aqx:=rg [
bzk 43 13,oo 4 (.asg (.c .nilS)),bzq 5 43] [4,5]
def aqw:=rg [
bzk 45 12,by9 46 n_en [(.t 45),(ci 2)],bzk 44 46,bzr 47 44 0,bzr 48 44 1,bzq 14 47,bzq 15 48] [2,9,14,15,30,31,32]
def aqv:=rg [
bzk 49 15,bzm 50 49] [2,9,14,30,31,32,50]
def aqu:=rg [
oo 4 (.asg (.c .nilS)),by6 5 2] [4,5]
def aqt:=rg [
bzj 52 8 2,bzk 53 14,by9 54 n_ak [(.t 52),(.t 53)],bzk 51 54,bzr 55 51 0,bzr 56 51 1,oo 16 (.alloc [(.int .i64 0),(.bool false),(.bool false),(.bool false),(.int .i64 0),(.int .i64 0),.nilS,.nilS,(.bool false),(.int .i64 0),(.int .i64 0),.nilS,.nilS,(.bool false),(.int .i64 0)]),bzp 15 16 55,bzq 13 56] [2,9,13,16,30,31,32]
def aqs:=rg [
bzk 57 13,by7 58 .neq 57 0] [2,9,13,16,30,31,32,58]
def aqr:=rg [
bzk 59 13,oo 4 (.asg (.c .nilS)),bzq 5 59] [4,5]
def aqq:=rg [
bzk 60 9,bzj 61 15 16,oo 62 (.lit false 15 1 (.agg [(.int .i64 0),(.bool false),(.bool false),(.bool false),(.int .i64 0),(.int .i64 0),(.sl []),(.sl []),(.bool false),(.int .i64 0),(.int .i64 0),(.sl []),(.sl []),(.bool false),(.int .i64 0)]) [(0,(.t 61))]),oo 63 (.append 15 176 (.t 60) (.t 62)),bzq 9 63] [2,9,30,31,32]
def aqp:=rg [
by7 64 .add 32 1,bzk 32 64] [2,9,30,31,32]
def tg:ICode:=(.seq bmv (.seq (.cond (.t 33) .skip (.exit 0)) (.seq (.block 1 (.seq aq0 (.seq aqz (.seq (.seq aqy (.cond (.t 42) (.seq aqx .ret) .skip)) (.seq aqw (.seq (.seq aqv (.cond (.t 50) (.seq aqu .ret) .skip)) (.seq (.seq (.free 16) aqt) (.seq (.seq aqs (.cond (.t 58) (.seq aqr .ret) .skip)) aqq)))))))) aqp)))
def bt6:=bzd tg.eq_1
def r4:=rg [
bzk 65 9,by9 66 n_fj [(.t 65)],bzq 4 66,by6 5 0] [4,5]
def c_al:ICode:=(.seq r_al_0 (.seq r_al_1 (.seq r_al_2 (.cond (.t 23) (.seq r_al_3 .ret) (.seq r_al_4 (.seq r_al_5 (.cond (.t 29) (.seq r_al_6 .ret) (.seq r_al_7 (.seq (.seq r_al_8 (.block 0 (.loop tg))) (.seq r4 .ret))))))))))
def i_al:IFunc:=⟨2,[.t 4,.t 5],c_al⟩
def a_al:Advice:=⟨[63],zzz 21 [aqp,aqq,aqr,aqs,aqt,aqu,aqv,aqw,aqx,aqy,aqz,aq0,bmv,r_al_8,r_al_7,.ret,r_al_5,r_al_4,r_al_3,r_al_2,r_al_1,r_al_0]++[(22,[4,5]),(6,[4,5])],[],[(17,[16])],[],[]⟩
def r_ef_0:=rg [
oo 2 (.asg (.c (.int .u64 0)))] [0]
def r_ef_1:=rg [
bzk 3 0,by7 4 .lss 3 0] [0,4]
def r_ef_2:=rg [
bzk 5 0,oo 6 (.cvInt .u64 (.t 5)),oo 7 (.un .neg (.t 6)),bzq 2 7] [2]
def r_ef_3:=rg [
bzk 8 0,oo 9 (.cvInt .u64 (.t 8)),bzq 2 9] [2]
def c_ef:ICode:=(.seq r_ef_0 (.seq r_ef_1 (.cond (.t 4) (.seq r_ef_2 .ret) (.seq r_ef_3 .ret))))
def i_ef:IFunc:=⟨1,[.t 2],c_ef⟩
def a_ef:=zzy (zzz 3 [r_ef_3,r_ef_2,r_ef_1,r_ef_0])
@[go_sem] def r_fi_0_o:Ops:=[
oo 2 (.asg (.c (.int .u64 0)))]
def r_fi_0:=rg r_fi_0_o [0]
@[go_sem] def r_fi_1_o:Ops:=[
bzk 3 0,oo 4 (.cvInt .u64 (.t 3)),oo 5 (.bin .shl (.t 4) (.c (.int .u64 1))),bzk 6 0,oo 7 (.bin .shr (.t 6) (.c (.int .u64 63))),oo 8 (.cvInt .u64 (.t 7)),by8 9 .xor 5 8,bzq 2 9]
def r_fi_1:=rg r_fi_1_o [2]
def c_fi:ICode:=(.seq r_fi_0 (.seq r_fi_1 .ret))
def i_fi:IFunc:=⟨1,[.t 2],c_fi⟩
def a_fi:=zzy ([(1,[2]),(0,[0])])
def r_bc_0:=rg [
by6 2 0] [0]
def r_bc_1:=rg [
bzk 3 0] [3]
def r_bc_2:=rg [
by7 5 .eql 3 1,bzq 4 5] [3,4]
def r_bc_3:=rg [
by7 6 .eql 3 2,bzq 4 6] [3,4]
def r_bc_4:=rg [
by7 8 .eql 3 3,bzq 7 8] [3,7]
def r_bc_5:=rg [
by7 9 .eql 3 4,bzq 7 9] [3,7]
def r_bc_6:=rg [
by7 11 .eql 3 7,bzq 10 11] [3,10]
def r_bc_7:=rg [
by7 12 .eql 3 16,bzq 10 12] [3,10]
def r_bc_8:=rg [
by7 13 .eql 3 17,bzq 10 13] [3,10]
def r_bc_9:=rg [
by7 15 .eql 3 0,bzq 14 15] [3,14]
def bj7:=rg [
by7 17 .eql 3 14,bzq 16 17] [3,16]
def bj6:=rg [
by7 19 .eql 3 15,bzq 18 19] [3,18]
def bj5:=rg [
by7 21 .eql 3 8,bzq 20 21] [3,20]
def bj4:=rg [
by7 23 .eql 3 9,bzq 22 23] [22]
def bj3:=rg [
by6 2 2] [2]
def bj2:=rg [
by6 2 4] [2]
def bj1:=rg [
by6 2 5] [2]
def bj0:=rg [
by6 2 6] [2]
def bjz:=rg [
by6 2 7] [2]
def bjy:=rg [
by6 2 8] [2]
def bjx:=rg [
by6 2 9] [2]
def bjw:=rg [
by6 2 0] [2]
def c_bc:ICode:=(.seq r_bc_0 (.seq (.seq r_bc_1 (.block 0 (.seq (.block 8 (.seq (.block 7 (.seq (.block 6 (.seq (.block 5 (.seq (.block 4 (.seq (.block 3 (.seq (.block 2 (.block 1 (.seq (.seq (.seq (.seq r_bc_2 (.cond (.t 4) .skip r_bc_3)) (.cond (.t 4) (.exit 1) .skip)) (.seq (.seq (.seq r_bc_4 (.cond (.t 7) .skip r_bc_5)) (.cond (.t 7) (.exit 2) .skip)) (.seq (.seq (.seq r_bc_6 (.cond (.t 10) .skip (.seq r_bc_7 (.cond (.t 10) .skip r_bc_8)))) (.cond (.t 10) (.exit 3) .skip)) (.seq (.seq r_bc_9 (.cond (.t 14) (.exit 4) .skip)) (.seq (.seq bj7 (.cond (.t 16) (.exit 5) .skip)) (.seq (.seq bj6 (.cond (.t 18) (.exit 6) .skip)) (.seq (.seq bj5 (.cond (.t 20) (.exit 7) .skip)) (.seq bj4 (.cond (.t 22) (.exit 8) .skip))))))))) (.exit 0)))) (.seq (.seq bj3 .ret) (.exit 0)))) (.seq (.seq bj2 .ret) (.exit 0)))) (.seq (.seq bj1 .ret) (.exit 0)))) (.seq (.seq bj0 .ret) (.exit 0)))) (.seq (.seq bjz .ret) (.exit 0)))) (.seq (.seq bjy .ret) (.exit 0)))) (.seq (.seq bjx .ret) (.exit 0))))) (.seq bjw .ret)))
def i_bc:IFunc:=⟨1,[.t 2],c_bc⟩
def a_bc:=zzy (zzz 21 [bjw,bjx,bjy,bjz,bj0,bj1,bj2,bj3,bj4,bj5,bj6,bj7,r_bc_9,r_bc_8,r_bc_7,r_bc_6,r_bc_5,r_bc_4,r_bc_3,r_bc_2,r_bc_1,r_bc_0])
def r_b7_0:=rg [
oo 2 (.box 8 (.t 0)),oo 3 (.box 15 (.t 1)),oo 4 (.asg (.c .nilS))] [2,3]
def r_b7_1:=rg [
bza 8 0 3,bzi 9 8,oo 10 (.cvInt .u64 (.t 9)),by9 11 n_dw [(.c .nilS),(ci 1),(.t 10)],bzq 5 11] [2,3,5]
def r_b7_2:=rg [
bza 12 0 2,bzi 13 12,by9 14 n_bc [(.t 13)],bzq 6 14] [2,3,5,6]
def r_b7_3:=rg [
bzk 15 6,by7 16 .gtr 15 0,bzk 17 16,og 18 17 true (.fieldA 2 (.t 3)),og 19 17 true (.load none (.t 18)),bzc 20 17 true 19,og 21 20 false (.fieldA 13 (.t 3)),og 22 20 false (.load none (.t 21)),og 23 17 true (.pick (.t 20) (.c (.bool true)) (.t 22)),bzn 24 17 23] [2,3,5,6,24]
@[go_sem] def r_b7_4_o:Ops:=[
bzk 25 5,bzk 26 6,bzj 27 8 2,bzj 28 15 3,by9 29 n_gd [(.t 27),(.t 28)],by9 30 n_dk [(.t 25),(.t 26),(.t 29)],bzq 5 30]
def r_b7_4:=rg r_b7_4_o [3,5]
def r_b7_5:=rg [
oo 7 (.asg (.c (.int .u64 0)))] [3,5,7]
def r_b7_6:=rg [
bza 31 1 3,bzi 32 31] [5,7,32]
def r_b7_7:=rg [
oo 7 (.asg (.c (.int .u64 1)))] [5,7]
def r_b7_8:=rg [
bzk 33 5,bzk 34 7,by9 35 n_dw [(.t 33),(ci 10),(.t 34)],bzq 4 35] [4]
def c_b7:ICode:=(.seq r_b7_0 (.seq r_b7_1 (.seq (.seq r_b7_2 (.seq r_b7_3 (.cond (.t 24) r_b7_4 .skip))) (.seq r_b7_5 (.seq (.seq r_b7_6 (.cond (.t 32) r_b7_7 .skip)) (.seq r_b7_8 .ret))))))
def i_b7:IFunc:=⟨2,[.t 4],c_b7⟩
def a_b7:=zzy (zzz 8 [r_b7_8,r_b7_7,r_b7_6,r_b7_5,.ret,r_b7_3,r_b7_2,r_b7_1,r_b7_0]++[(4,[3,5])])
def r_bp_0:=rg [
oo 2 (.box 8 (.t 0)),oo 4 (.asg (.c .nilS))] [1,2]
def r_bp_1:=rg [
oo 5 (.asg (.c .nilS))] [1,2,5]
def r_bp_2:=rg [
bzk 8 1,bzh 9 false 8,oo 10 (.mv (ci 0))] [2,5,8,9,10]
def bi8:=rg [
by8 11 .lss 10 9] [2,5,8,9,10,11]
def bi7:=rg [
bzf 12 15 8 10,bzj 13 15 12,oo 7 (.alloc [(.int .i64 0),(.bool false),(.bool false),(.bool false),(.int .i64 0),(.int .i64 0),.nilS,.nilS,(.bool false),(.int .i64 0),(.int .i64 0),.nilS,.nilS,(.bool false),(.int .i64 0)]),bzp 15 7 13] [2,5,7,8,9,10]
def bi6:=rg [
bzk 14 5,bzj 15 8 2,bzj 16 15 7,by9 17 n_b7 [(.t 15),(.t 16)],by9 18 n_dk [(.c .nilS),(ci 2),(.t 17)],by9 19 n_dk [(.t 14),(ci 1),(.t 18)],bzq 5 19] [2,5,8,9,10]
def bi5:=rg [
by7 20 .add 10 1,bzk 10 20] [2,5,8,9,10]
def an4:ICode:=(.seq bi8 (.seq (.cond (.t 11) .skip (.exit 0)) (.seq (.block 1 (.seq (.seq (.free 7) bi7) bi6)) bi5)))
def bt7:=bzd an4.eq_1
def bi4:=rg [
bzk 21 5,bzq 4 21] [4]
def c_bp:ICode:=(.seq r_bp_0 (.seq r_bp_1 (.seq (.seq r_bp_2 (.block 0 (.loop an4))) (.seq bi4 .ret))))
def i_bp:IFunc:=⟨2,[.t 4],c_bp⟩
def a_bp:Advice:=⟨[],zzz 6 [bi5,bi6,bi7,bi8,r_bp_2,r_bp_1,r_bp_0]++[(7,[4])],[],[(4,[7])],[],[]⟩
def r_bq_0:=rg [
oo 2 (.asg (.c .nilS))] [0]
def r_bq_1:=rg [
bzk 3 0,oo 4 (.isNil false (.t 3))] [0,4]
@[go_sem] def r_bq_2_o:Ops:=[
oo 2 (.asg (.c .nilS))]
def r_bq_2:=rg r_bq_2_o [2]
def r_bq_3:=rg [
oo 5 (.lit true 1 0 (.str []) []),bzk 6 0,oo 7 (.append 1 16 (.t 5) (.t 6)),bzq 2 7] [2]
def c_bq:ICode:=(.seq r_bq_0 (.seq r_bq_1 (.cond (.t 4) (.seq r_bq_2 .ret) (.seq r_bq_3 .ret))))
def i_bq:IFunc:=⟨1,[.t 2],c_bq⟩
def a_bq:Advice:=⟨[5],zzz 3 [r_bq_3,.ret,r_bq_1,r_bq_0]++[(2,[2])],[],[],[],[]⟩
def r_a7_0:=rg [
oo 5 (.box 6 (.t 1)),oo 8 (.asg (.c .nilS))] [0,2,3,5]
def r_a7_1:=rg [
bzk 13 0,bzh 14 false 13,bzq 9 14] [0,2,3,5,9]
@[go_sem] def bd3:Ops:=[
bzk 15 0,bza 16 0 5,bzi 17 16,bza 18 1 5,bzi 19 18,by9 20 n_bq [(.t 19)],by9 21 n_fp [(.t 20)],bza 22 3 5,bzi 23 22,bza 24 4 5,bzi 25 24,bza 26 5 5,bzi 27 26,bzk 28 2,bzk 29 3,oo 30 (.build [(.int .i64 0),.nilS,.nilS,(.int .i64 0),(.int .i64 0),(.int .i64 0),(.int .i64 0),(.int .i64 0)] [(0,1,(.t 17)),(1,1,(.c .nilS)),(2,1,(.t 21)),(3,1,(.t 23)),(4,1,(.t 25)),(5,1,(.t 27)),(6,1,(.t 28)),(7,1,(.t 29))]),oo 31 (.lit false 8 1 (.agg [(.int .i64 0),(.sl []),(.sl []),(.int .i64 0),(.int .i64 0),(.int .i64 0),(.int .i64 0),(.int .i64 0)]) [(0,(.t 30))]),oo 32 (.append 8 96 (.t 15) (.t 31)),bzq 0 32]
def bd4:List (Nat×Nat):=[(0,1),(0,2),(0,3),(1,3),(2,3),(0,4),(1,4),(2,4),(0,5),(1,5),(2,5),(0,6),(1,6),(2,6),(0,7),(1,7),(2,7),(3,7),(4,7),(5,7),(6,7),(0,8),(1,8),(2,8),(3,8),(4,8),(5,8),(6,8),(0,9),(1,9),(2,9),(3,9),(4,9),(5,9),(6,9),(7,9),(8,9),(0,10),(1,10),(2,10),(3,10),(4,10),(5,10),(6,10),(7,10),(8,10),(0,11),(1,11),(2,11),(3,11),(4,11),(5,11),(6,11),(7,11),(8,11),(9,11),(10,11),(0,12),(1,12),(2,12),(3,12),(4,12),(5,12),(6,12),(7,12),(8,12),(9,12),(10,12),(0,13),(1,13),(2,13),(3,13),(4,13),(5,13),(6,13),(7,13),(8,13),(9,13),(10,13),(11,13),(12,13),(0,14),(1,14),(2,14),(3,14),(4,14),(5,14),(6,14),(7,14),(8,14),(9,14),(10,14),(11,14),(12,14),(13,14),(0,15),(0,16)]
def r_a7_2:ICode:= .region bd3 bd4 [0,3,5,9]
@[go_sem] theorem r_a7_2_u:Gu X K s r_a7_2 bd4 bd3 [0,3,5,9]:=go_regionU' _ _ _ _
def r_a7_3:=rg [
oo 10 (.asg (.c .nilS))] [0,3,5,9,10]
def r_a7_4:=rg [
bza 33 2 5,bzi 34 33,bzh 35 false 34,oo 36 (.mv (ci 0))] [0,3,9,10,34,35,36]
def brn:=rg [
by8 37 .lss 36 35] [0,3,9,10,34,35,36,37]
def brm:=rg [
bzf 38 6 34 36,bzj 39 6 38,oo 12 (.alloc [(.int .i64 0),.nilS,.nilS,(.int .i64 0),(.int .i64 0),(.int .i64 0)]),bzp 6 12 39] [0,3,9,10,12,34,35,36]
def brl:=rg [
bzk 40 10,bzk 41 0,bzh 42 false 41,oo 43 (.lit false 1 1 (.int .i64 0) [(0,(.t 42))]),oo 44 (.append 1 8 (.t 40) (.t 43)),bzq 10 44] [0,3,9,10,12,34,35,36]
def brk:=rg [
bzk 45 0,bzj 46 6 12,bzk 47 9,bzk 48 3,by7 49 .add 48 1,oo 50 (.callg true n_a7 [(.t 45),(.t 46),(.t 47),(.t 49)] 0),bzq 0 50] [0,3,9,10,34,35,36]
def brj:=rg [
by7 51 .add 36 1,bzk 36 51] [0,3,9,10,34,35,36]
def x8:ICode:=(.seq brn (.seq (.cond (.t 37) .skip (.exit 0)) (.seq (.block 1 (.seq (.seq (.free 12) brm) (.seq brl brk))) brj)))
def bt8:=bzd x8.eq_1
def r7:=rg [
bzk 52 0,bzk 53 9,bzk 54 10,by9 55 n_ga [(.t 54)],bzf 56 8 52 53,bza 57 1 56,bzp 1 57 55] [0]
def r6:=rg [
bzk 58 0,bzq 8 58] [8]
def c_a7:ICode:=(.seq r_a7_0 (.seq r_a7_1 (.seq r_a7_2 (.seq r_a7_3 (.seq (.seq r_a7_4 (.block 0 (.loop x8))) (.seq (.seq (.demote [10]) r7) (.seq r6 .ret)))))))
def i_a7:IFunc:=⟨4,[.t 8],c_a7⟩
def a_a7:Advice:=⟨[32,44,50],zzz 9 [brj,brk,brl,brm,brn,r_a7_4,r_a7_3,.ret,r_a7_1,r_a7_0]++[(11,[8]),(10,[0]),(2,[0,3,5,9])],[(10,[10])],[(6,[12])],[(50,0)],[]⟩
def r_ap_0:=rg [
oo 1 (.box 6 (.t 0)),by5 2 false] [1]
def r_ap_1:=rg [
by6 3 0,by6 4 0,by6 5 0,by5 6 false] [1,3,4,5,6]
def r_ap_2:=rg [
bza 7 0 1,bzi 8 7] [1,3,4,5,6,8]
def r_ap_3:=rg [
by7 10 .eql 8 11,bzq 9 10] [1,3,4,5,6,8,9]
def r_ap_4:=rg [
by7 12 .eql 8 10,bzq 11 12] [1,3,4,5,6,8,11]
def r_ap_5:=rg [
by7 14 .eql 8 12,bzq 13 14] [1,3,4,5,6,8,13]
def r_ap_6:=rg [
by7 16 .eql 8 13,bzq 15 16] [1,3,4,5,6,8,15]
def r_ap_7:=rg [
by7 18 .eql 8 16,bzq 17 18] [1,3,4,5,6,8,17]
def r_ap_8:=rg [
by7 19 .eql 8 17,bzq 17 19] [1,3,4,5,6,8,17]
def r_ap_9:=rg [
by7 21 .eql 8 14,bzq 20 21] [1,3,4,5,6,20]
def bmb:=rg [
bzk 22 3,by7 23 .add 22 1,bzq 3 23] [1,3,4,5,6]
def bma:=rg [
bzk 24 3,by7 25 .add 24 1,bzq 3 25] [1,3,4,5,6]
@[go_sem] def ac9:Ops:=[
bza 26 1 1,bzi 27 26,bzh 28 false 27,bza 29 1 1,bzi 30 29,bzh 31 false 30,bzq 3 28,bzq 4 31]
def ada:List (Nat×Nat):=[(0,3),(1,3),(2,3),(0,4),(1,4),(2,4),(0,5),(1,5),(2,5),(3,6),(4,6),(5,6)]
def bl9:ICode:= .region ac9 ada [1,3,4,5,6]
@[go_sem] theorem r_ap_12_u:Gu X K s bl9 ada ac9 [1,3,4,5,6]:=go_regionU' _ _ _ _
def bl8:=rg [
bza 32 2 1,bzi 33 32,bzh 34 false 33,bzq 3 34] [1,3,4,5,6]
def bl7:=rg [
bzk 35 3,by7 36 .lss 35 1,bzk 37 36,bzc 38 37 false 3,og 39 37 false (.bin .gtr (.t 38) (ci 255)),bzo 40 37 39] [1,3,4,5,6,40]
def bl6:=rg [
by5 2 false] [2]
def bl5:=rg [
bza 41 3 1,bzi 42 41,bzq 5 42] [1,3,4,5,6]
def bl4:=rg [
bzk 43 5,by7 44 .lss 43 1,bzk 45 44,bzc 46 45 false 5,og 47 45 false (.bin .gtr (.t 46) (ci 4096)),bzo 48 45 47] [1,3,4,5,6,48]
def bl3:=rg [
by5 2 false] [2]
def bl2:=rg [
by5 6 true] [1,3,4,5,6]
def bl1:=rg [
bza 49 2 1,bzi 50 49,bzh 51 false 50,bzk 52 3,by8 53 .neq 51 52,bzk 54 53,og 55 54 false (.fieldA 1 (.t 1)),og 56 54 false (.load none (.t 55)),og 57 54 false (.len false (.t 56)),bzc 58 54 false 4,og 59 54 false (.bin .neq (.t 57) (.t 58)),bzo 60 54 59,bzk 61 60,og 62 61 false (.fieldA 3 (.t 1)),og 63 61 false (.load none (.t 62)),bzc 64 61 false 5,og 65 61 false (.bin .neq (.t 63) (.t 64)),bzo 66 61 65,bzk 67 66,og 68 67 false (.fieldA 1 (.t 1)),og 69 67 false (.load none (.t 68)),og 70 67 false (.call false n_fy [(.t 69)]),og 71 67 false (.un .not (.t 70)),bzo 72 67 71] [1,6,72]
def bl0:=rg [
by5 2 false] [2]
def blz:=rg [
bzk 73 6] [1,73]
def bly:=rg [
bza 74 4 1,bzi 75 74,by7 76 .geq 75 1,bzk 77 76,og 78 77 true (.fieldA 4 (.t 1)),og 79 77 true (.load none (.t 78)),og 80 77 true (.bin .leq (.t 79) (ci 18)),bzn 81 77 80,bzk 82 81,og 83 82 true (.fieldA 5 (.t 1)),og 84 82 true (.load none (.t 83)),og 85 82 true (.bin .geq (.t 84) (ci 0)),bzn 86 82 85,bzk 87 86,og 88 87 true (.fieldA 5 (.t 1)),og 89 87 true (.load none (.t 88)),og 90 87 true (.fieldA 4 (.t 1)),og 91 87 true (.load none (.t 90)),og 92 87 true (.bin .leq (.t 89) (.t 91)),bzn 93 87 92,bzq 2 93] [2]
def blx:=rg [
bza 94 4 1,bzi 95 94,by7 96 .eql 95 0,bzk 97 96,og 98 97 true (.fieldA 5 (.t 1)),og 99 97 true (.load none (.t 98)),og 100 97 true (.bin .eql (.t 99) (ci 0)),bzn 101 97 100,bzq 2 101] [2]
def c_ap:ICode:=(.seq r_ap_0 (.seq r_ap_1 (.seq (.seq r_ap_2 (.block 0 (.seq (.block 6 (.seq (.block 5 (.seq (.block 4 (.seq (.block 3 (.seq (.block 2 (.seq (.block 1 (.seq (.seq (.seq r_ap_3 (.cond (.t 9) (.exit 1) .skip)) (.seq (.seq r_ap_4 (.cond (.t 11) (.exit 2) .skip)) (.seq (.seq r_ap_5 (.cond (.t 13) (.exit 3) .skip)) (.seq (.seq r_ap_6 (.cond (.t 15) (.exit 4) .skip)) (.seq (.seq (.seq r_ap_7 (.cond (.t 17) .skip r_ap_8)) (.cond (.t 17) (.exit 5) .skip)) (.seq r_ap_9 (.cond (.t 20) (.exit 6) .skip))))))) (.exit 0))) bmb)) (.seq bma (.exit 0)))) (.seq bl9 (.exit 0)))) (.seq (.seq bl8 (.seq bl7 (.cond (.t 40) (.seq bl6 .ret) .skip))) (.exit 0)))) (.seq (.seq bl5 (.seq bl4 (.cond (.t 48) (.seq bl3 .ret) .skip))) (.exit 0)))) (.seq bl2 (.exit 0))))) (.seq bl1 (.cond (.t 72) (.seq bl0 .ret) (.seq blz (.cond (.t 73) (.seq bly .ret) (.seq blx .ret))))))))
def i_ap:IFunc:=⟨1,[.t 2],c_ap⟩
def a_ap:=zzy (zzz 24 [blx,bly,blz,bl0,bl1,bl2,bl3,bl4,bl5,bl6,bl7,bl8,.ret,bma,bmb,r_ap_9,r_ap_8,r_ap_7,r_ap_6,r_ap_5,r_ap_4,r_ap_3,r_ap_2,r_ap_1,r_ap_0]++[(12,[1,3,4,5,6])])
def r_bh_0:=rg [
oo 3 (.box 6 (.t 0)),by6 6 0] [1,2,3]
def r_bh_1:=rg [
bzk 11 1,by7 12 .gtr 11 16,bzk 13 12,bzc 14 13 false 2,og 15 13 false (.nilck (.t 14)),og 16 13 false (.load none (.t 15)),og 17 13 false (.bin .geq (.t 16) (ci 100)),bzo 18 13 17,bzq 10 18] [1,2,3,10]
def r_bh_2:=rg [
by6 6 4] [6]
def r_bh_3:=rg [
bza 20 0 3,bzi 21 20,by7 22 .eql 21 5,bzk 23 22,og 24 23 false (.fieldA 0 (.t 3)),og 25 23 false (.load none (.t 24)),og 26 23 false (.bin .eql (.t 25) (ci 6)),bzo 27 23 26,bzq 19 27] [1,2,3,19]
def r_bh_4:=rg [
by6 6 5] [6]
def r_bh_5:=rg [
bza 29 0 3,bzi 30 29,by7 31 .lss 30 0,bzk 32 31,og 33 32 false (.fieldA 0 (.t 3)),og 34 32 false (.load none (.t 33)),og 35 32 false (.bin .gtr (.t 34) (ci 17)),bzo 36 32 35,bzk 37 36,og 38 37 false (.load (some 6) (.t 3)),og 39 37 false (.call false n_ap [(.t 38)]),og 40 37 false (.un .not (.t 39)),bzo 41 37 40,bzq 28 41] [1,2,3,28]
def r_bh_6:=rg [
by6 6 1] [6]
def r_bh_7:=rg [
bzk 42 2,bzl 43 42,bzi 44 43,by7 45 .add 44 1,bzl 46 42,bzp 1 46 45] [1,2,3]
def r_bh_8:=rg [
bza 47 2 3,bzi 48 47,bzh 49 false 48,oo 50 (.mv (ci 0))] [1,2,48,49,50]
def bjq:=rg [
by8 51 .lss 50 49] [1,2,48,49,50,51]
def ao3:=rg [
bzf 52 6 48 50,bzj 53 6 52,oo 8 (.alloc [(.int .i64 0),.nilS,.nilS,(.int .i64 0),(.int .i64 0),(.int .i64 0)]),bzp 6 8 53] [1,2,8,48,49,50]
def ao2:=rg [
bzj 54 6 8,bzk 55 1,by7 56 .add 55 1,bzk 57 2,by9 58 n_bh [(.t 54),(.t 56),(.t 57)],bzq 9 58] [1,2,9,48,49,50]
def ao1:=rg [
bzk 59 9,by7 60 .neq 59 0] [1,2,9,48,49,50,60]
def ao0:=rg [
bzk 61 9,bzq 6 61] [6]
def aoz:=rg [
by7 62 .add 50 1,bzk 50 62] [1,2,48,49,50]
def avt:ICode:=(.seq bjq (.seq (.cond (.t 51) .skip (.exit 1)) (.seq (.block 2 (.seq (.seq (.free 8) ao3) (.seq ao2 (.seq ao1 (.cond (.t 60) (.seq ao0 .ret) .skip))))) aoz)))
def bt9:=bzd avt.eq_1
def aoy:=rg [
by6 6 0] [6]
def c_bh:ICode:=(.seq r_bh_0 (.seq (.block 0 (.seq r_bh_1 (.cond (.t 10) (.seq r_bh_2 .ret) (.seq r_bh_3 (.cond (.t 19) (.seq r_bh_4 .ret) (.seq r_bh_5 (.cond (.t 28) (.seq r_bh_6 .ret) .skip))))))) (.seq r_bh_7 (.seq (.seq r_bh_8 (.block 1 (.loop avt))) (.seq aoy .ret)))))
def i_bh:IFunc:=⟨3,[.t 6],c_bh⟩
def a_bh:Advice:=⟨[],zzz 14 [aoz,ao0,ao1,ao2,ao3,bjq,r_bh_8,r_bh_7,r_bh_6,r_bh_5,r_bh_4,r_bh_3,r_bh_2,r_bh_1,r_bh_0]++[(15,[6])],[],[(10,[8])],[],[]⟩
def r_d7_0:=rg [
oo 1 (.box 6 (.t 0)),by6 2 0] [1]
def r_d7_1:=rg [
oo 3 (.alloc [(.int .i64 0)]),ow (.store 1 (.t 3) (ci 0))] [1,3]
def r_d7_2:=rg [
bzj 4 6 1,by9 5 n_bh [(.t 4),(ci 1),(.t 3)],bzq 2 5] [2]
def c_d7:ICode:=(.seq r_d7_0 (.seq r_d7_1 (.seq r_d7_2 .ret)))
def i_d7:IFunc:=⟨1,[.t 2],c_d7⟩
def a_d7:=zzy (zzz 2 [r_d7_2,r_d7_1,r_d7_0])
def r_dg_0:=rg [
oo 1 (.box 6 (.t 0)),oo 2 (.asg (.c .nilS))] [1]
def r_dg_1:=rg [
bzj 3 6 1,by9 4 n_d7 [(.t 3)],by7 5 .neq 4 0] [1,5]
@[go_sem] def r_dg_2_o:Ops:=[
oo 2 (.asg (.c .nilS))]
def r_dg_2:=rg r_dg_2_o [2]
def r_dg_3:=rg [
bzj 6 6 1,oo 7 (.callg false n_a7 [(.c .nilS),(.t 6),(ci (-1)),(ci 1)] 0),by9 8 n_fk [(.t 7)],bzq 2 8] [2]
def c_dg:ICode:=(.seq r_dg_0 (.seq r_dg_1 (.cond (.t 5) (.seq r_dg_2 .ret) (.seq r_dg_3 .ret))))
def i_dg:IFunc:=⟨1,[.t 2],c_dg⟩
def a_dg:Advice:=⟨[],zzz 3 [r_dg_3,.ret,r_dg_1,r_dg_0]++[(2,[2])],[],[],[(7,0)],[]⟩
def r_dr_0:=rg [
oo 4 (.box 1 (.t 1)),oo 5 (.box 1 (.t 2)),oo 6 (.alloc [(.int .i64 0),(.int .i64 0),(.int .u64 0),.nilS,(.int .i64 0)]),oo 7 (.alloc [(.bool false)])] [0,4,5,6,7]
def r_dr_1:=rg [
bzk 10 0,by9 11 n_d6 [(.t 10)]] [4,5,6,7,11]
def bh4:=rg [
oo 9 (.alloc [(.int .i64 0),(.int .i64 0),(.int .u64 0),.nilS,(.int .i64 0)]),bzp 5 9 13] [4,5,6,7,9]
def btp:ICode:=bh4
def bua:=bzd btp.eq_1
def bh3:=rg [
bza 14 0 9,bzi 15 14,bzi 16 4,by8 17 .eql 15 16,bzk 18 17,og 19 18 true (.fieldA 1 (.t 9)),og 20 18 true (.load none (.t 19)),og 21 18 true (.load none (.t 5)),og 22 18 true (.bin .eql (.t 20) (.t 21)),bzn 23 18 22] [6,7,9,23]
def bh2:=rg [
bzj 24 5 9,bzp 5 6 24,ow (.store 1 (.t 7) (.c (.bool true)))] [6,7]
def bto:ICode:=(.block 1 (.seq bh3 (.cond (.t 23) (.seq bh2 .ret) .skip)))
def bub:=bzd bto.eq_1
def bh1:=rg [
oo 25 (.build [(.int .i64 0),(.int .i64 0),(.int .u64 0),.nilS,(.int .i64 0)] []),bzp 5 6 25,ow (.store 1 (.t 7) (.c (.bool false)))] [6,7]
def c_dr:ICode:=(.seq r_dr_0 (.seq (.seq r_dr_1 (.block 0 (.each (.t 11) [12,13] btp bto))) (.seq bh1 .ret)))
def i_dr:IFunc:=⟨3,[.cell 6 (some 5),.cell 7 none],c_dr⟩
def a_dr:=zzy (zzz 5 [bh2,.ret,.ret,bh4,r_dr_1,r_dr_0]++[(4,[6,7]),(3,[6,7,9,23])])
def r_ey_0:=rg [
oo 4 (.asg (.c (.int .u64 0))),by5 5 false] [0,1]
def r_ey_1:=rg [
bzk 9 0,bzk 10 1,by9 11 n_dr [(.t 9),(.t 10),(ci 0)],bzk 8 11,bzr 12 8 0,bzr 13 8 1,oo 6 (.alloc [(.int .i64 0),(.int .i64 0),(.int .u64 0),.nilS,(.int .i64 0)]),bzp 5 6 12,bzq 7 13] [6,7]
def r_ey_2:=rg [
bza 14 2 6,bzi 15 14,bzk 16 7,bzq 4 15,bzq 5 16] [4,5]
def c_ey:ICode:=(.seq r_ey_0 (.seq r_ey_1 (.seq r_ey_2 .ret)))
def i_ey:IFunc:=⟨2,[.t 4,.t 5],c_ey⟩
def a_ey:=zzy (zzz 2 [r_ey_2,r_ey_1,r_ey_0])
def r_cd_0:=rg [
oo 4 (.asg (.c (.int .u64 0))),by6 5 0,by6 6 0] [0,1,4]
def r_cd_1:=rg [
bzk 9 1,by7 10 .lss 9 0,bzk 11 10,bzc 12 11 false 1,bzc 13 11 false 0,og 14 11 false (.len false (.t 13)),og 15 11 false (.bin .gtr (.t 12) (.t 14)),bzo 16 11 15] [0,1,4,16]
@[go_sem] def r_cd_2_o:Ops:=[
oo 4 (.asg (.c (.int .u64 0))),by6 5 0,by6 6 1]
def r_cd_2:=rg r_cd_2_o [4,5,6]
def r_cd_3:=rg [
bzk 17 0,bzk 18 1,oo 19 (.slice 1 (.t 17) (some (.t 18)) none none),bzh 20 false 19,oo 21 (.mv (ci 0))] [4,19,20,21]
def bil:=rg [
by8 22 .lss 21 20] [4,19,20,21,22]
def bik:=rg [
bzk 23 21,bzf 24 1 19 21,bzi 25 24,bzq 7 23,bzq 8 25] [4,7,8,19,20,21]
def bij:=rg [
bzk 26 7,by7 27 .eql 26 9,bzk 28 27,bzc 29 28 true 8,og 30 28 true (.bin .gtr (.t 29) (.c (.int .u8 1))),bzn 31 28 30] [4,7,8,19,20,21,31]
def bii:=rg [
oo 4 (.asg (.c (.int .u64 0))),by6 5 0,by6 6 4] [4,5,6]
def bih:=rg [
bzk 32 4,bzk 33 8,oo 34 (.bin .andNot (.t 33) (.c (.int .u8 128))),oo 35 (.cvInt .u64 (.t 34)),bzk 36 7,oo 37 (.bin .mul (ci 7) (.t 36)),by8 38 .shl 35 37,by8 39 .or 32 38,bzq 4 39] [4,7,8,19,20,21]
def big:=rg [
bzk 40 8,oo 41 (.bin .lss (.t 40) (.c (.int .u8 128)))] [4,7,19,20,21,41]
def aoo:=rg [
bzk 42 4,bzk 43 7,by7 44 .add 43 1,bzq 4 42,bzq 5 44,by6 6 0] [4,5,6]
def aon:=rg [
by7 45 .add 21 1,bzk 21 45] [4,19,20,21]
def avr:ICode:=(.seq bil (.seq (.cond (.t 22) .skip (.exit 0)) (.seq (.block 1 (.seq bik (.seq (.seq bij (.cond (.t 31) (.seq bii .ret) .skip)) (.seq bih (.seq big (.cond (.t 41) (.seq aoo .ret) .skip)))))) aon)))
def buc:=bzd avr.eq_1
def aom:=rg [
oo 4 (.asg (.c (.int .u64 0))),by6 5 0,by6 6 3] [4,5,6]
def c_cd:ICode:=(.seq r_cd_0 (.seq r_cd_1 (.cond (.t 16) (.seq r_cd_2 .ret) (.seq (.seq r_cd_3 (.block 0 (.loop avr))) (.seq aom .ret)))))
def i_cd:IFunc:=⟨2,[.t 4,.t 5,.t 6],c_cd⟩
def a_cd:=zzy (zzz 11 [aon,aoo,big,bih,bii,bij,bik,bil,r_cd_3,.ret,r_cd_1,r_cd_0]++[(12,[4,5,6]),(2,[4,5,6])])
def r_aq_0:=rg [
oo 4 (.alloc [(.int .i64 0),(.int .i64 0),(.int .u64 0),.nilS,(.int .i64 0)]),by6 5 0,by6 6 0] [0,1,4]
def r_aq_1:=rg [
bzk 18 0,bzk 19 1,by9 20 n_cd [(.t 18),(.t 19)],bzk 17 20,bzr 21 17 0,bzr 22 17 1,bzr 23 17 2,bzq 7 21,bzq 8 22,bzq 9 23] [0,1,4,7,8,9]
def r_aq_2:=rg [
bzk 24 9,by7 25 .neq 24 0] [0,1,4,7,8,9,25]
def r_aq_3:=rg [
oo 26 (.build [(.int .i64 0),(.int .i64 0),(.int .u64 0),.nilS,(.int .i64 0)] []),bzk 27 9,bzp 5 4 26,by6 5 0,bzq 6 27] [4,5,6]
def r_aq_4:=rg [
bzk 28 7,oo 29 (.bin .and (.t 28) (.c (.int .u64 7))),oo 30 (.cvInt .i64 (.t 29)),bzk 31 1,oo 32 (.build [(.int .i64 0),(.int .i64 0),(.int .u64 0),.nilS,(.int .i64 0)] [(1,1,(.t 30)),(4,1,(.t 31))]),oo 10 (.alloc [(.int .i64 0),(.int .i64 0),(.int .u64 0),.nilS,(.int .i64 0)]),bzp 5 10 32] [0,1,4,7,8,10]
def r_aq_5:=rg [
bzk 33 7,oo 34 (.bin .shr (.t 33) (.c (.int .u64 3))),oo 35 (.bin .lss (.t 34) (.c (.int .u64 1))),bzk 36 35,bzc 37 36 false 7,og 38 36 false (.bin .shr (.t 37) (.c (.int .u64 3))),og 39 36 false (.bin .gtr (.t 38) (.c (.int .u64 536870911))),bzo 40 36 39] [0,1,4,7,8,10,40]
def r_aq_6:=rg [
oo 41 (.build [(.int .i64 0),(.int .i64 0),(.int .u64 0),.nilS,(.int .i64 0)] []),bzp 5 4 41,by6 5 0,by6 6 2] [4,5,6]
def r_aq_7:=rg [
bzk 42 7,oo 43 (.bin .shr (.t 42) (.c (.int .u64 3))),oo 44 (.cvInt .i64 (.t 43)),bza 45 0 10,bzp 1 45 44] [0,1,4,8,10]
def r_aq_8:=rg [
by6 11 0] [0,1,4,8,10,11]
def r_aq_9:=rg [
bza 46 1 10,bzi 47 46] [0,1,4,8,10,11,47]
def blw:=rg [
by7 49 .eql 47 0,bzq 48 49] [0,1,4,8,10,11,47,48]
def blv:=rg [
by7 50 .eql 47 2,bzq 48 50] [0,1,4,8,10,11,47,48]
def blu:=rg [
by7 52 .eql 47 1,bzq 51 52] [0,1,4,8,10,11,47,51]
def blt:=rg [
by7 54 .eql 47 5,bzq 53 54] [0,1,4,8,10,11,53]
def bls:=rg [
bzk 56 0,bzk 57 1,bzk 58 8,by8 59 .add 57 58,by9 60 n_cd [(.t 56),(.t 59)],bzk 55 60,bzr 61 55 0,bzr 62 55 1,bzr 63 55 2,bzq 12 61,bzq 13 62,bzq 14 63] [0,1,4,8,10,12,13,14]
def blr:=rg [
bzk 64 14,by7 65 .neq 64 0] [0,1,4,8,10,12,13,14,65]
def blq:=rg [
oo 66 (.build [(.int .i64 0),(.int .i64 0),(.int .u64 0),.nilS,(.int .i64 0)] []),bzk 67 14,bzp 5 4 66,by6 5 0,bzq 6 67] [4,5,6]
def blp:=rg [
bzk 68 8,bzk 69 13,by8 70 .add 68 69,bzq 8 70] [0,1,4,8,10,12]
def blo:=rg [
bza 71 1 10,bzi 72 71,by7 73 .eql 72 0] [0,1,4,8,10,12,73]
def bln:=rg [
bzk 74 12,bza 75 2 10,bzp 1 75 74] [4,8,10]
def blm:=rg [
bzj 76 5 10,bzk 77 8,bzp 5 4 76,bzq 5 77,by6 6 0] [4,5,6]
def bll:=rg [
bzk 78 12,bzk 79 0,bzh 80 false 79,bzk 81 1,by8 82 .sub 80 81,bzk 83 8,by8 84 .sub 82 83,oo 85 (.cvInt .u64 (.t 84)),by8 86 .gtr 78 85] [0,1,4,8,10,12,86]
def blk:=rg [
oo 87 (.build [(.int .i64 0),(.int .i64 0),(.int .u64 0),.nilS,(.int .i64 0)] []),bzp 5 4 87,by6 5 0,by6 6 3] [4,5,6]
def blj:=rg [
bzk 88 0,bzk 89 1,bzk 90 8,by8 91 .add 89 90,bzk 92 1,bzk 93 8,by8 94 .add 92 93,bzk 95 12,oo 96 (.cvInt .i64 (.t 95)),by8 97 .add 94 96,oo 98 (.slice 1 (.t 88) (some (.t 91)) (some (.t 97)) none),by9 99 n_bx [(.t 98)],by9 100 n_fh [(.t 99)],bza 101 3 10,bzp 1 101 100] [4,8,10,12]
def bli:=rg [
bzj 102 5 10,bzk 103 8,bzk 104 12,oo 105 (.cvInt .i64 (.t 104)),by8 106 .add 103 105,bzp 5 4 102,bzq 5 106,by6 6 0] [4,5,6]
def blh:=rg [
bzk 107 11,by7 108 .add 107 4,bzq 11 108] [0,1,4,8,10,11]
def blg:=rg [
bzk 109 11,by7 110 .add 109 4,bzq 11 110] [0,1,4,8,10,11]
def blf:=rg [
oo 111 (.build [(.int .i64 0),(.int .i64 0),(.int .u64 0),.nilS,(.int .i64 0)] []),bzp 5 4 111,by6 5 0,by6 6 2] [4,5,6]
def ble:=rg [
bzk 112 11,bzk 113 0,bzh 114 false 113,bzk 115 1,by8 116 .sub 114 115,bzk 117 8,by8 118 .sub 116 117,by8 119 .gtr 112 118] [0,1,4,8,10,11,119]
def bld:=rg [
oo 120 (.build [(.int .i64 0),(.int .i64 0),(.int .u64 0),.nilS,(.int .i64 0)] []),bzp 5 4 120,by6 5 0,by6 6 3] [4,5,6]
def blc:=rg [
bzk 121 0,bzk 122 1,bzk 123 8,by8 124 .add 122 123,bzk 125 1,bzk 126 8,by8 127 .add 125 126,bzk 128 11,by8 129 .add 127 128,oo 130 (.slice 1 (.t 121) (some (.t 124)) (some (.t 129)) none),bzh 131 false 130,oo 132 (.mv (ci 0))] [4,8,10,11,130,131,132]
def aqk:=rg [
by8 133 .lss 132 131] [4,8,10,11,130,131,132,133]
def aqj:=rg [
bzk 134 132,bzf 135 1 130 132,bzi 136 135,bzq 15 134,bzq 16 136] [4,8,10,11,15,16,130,131,132]
@[go_sem] def ab7:Ops:=[
bza 137 2 10,bzi 138 137,bzk 139 16,oo 140 (.cvInt .u64 (.t 139)),bzk 141 15,oo 142 (.bin .mul (ci 8) (.t 141)),by8 143 .shl 140 142,by8 144 .or 138 143,bza 145 2 10,bzp 1 145 144]
def ab8:List (Nat×Nat):=[(0,2),(1,2),(0,3),(1,3),(0,4),(1,4),(2,4),(3,4),(0,5),(1,5),(2,5),(3,5),(0,6),(1,6)]
def aqi:ICode:= .region ab7 ab8 [4,8,10,11,130,131,132]
@[go_sem] theorem r_aq_33_u:Gu X K s aqi ab8 ab7 [4,8,10,11,130,131,132]:=go_regionU' _ _ _ _
def aqh:=rg [
by7 146 .add 132 1,bzk 132 146] [4,8,10,11,130,131,132]
def av1:ICode:=(.seq aqk (.seq (.cond (.t 133) .skip (.exit 5)) (.seq (.block 6 (.seq aqj aqi)) aqh)))
def bud:=bzd av1.eq_1
def aqg:=rg [
bzj 147 5 10,bzk 148 8,bzk 149 11,by8 150 .add 148 149,bzp 5 4 147,bzq 5 150,by6 6 0] [4,5,6]
def c_aq:ICode:=(.seq r_aq_0 (.seq r_aq_1 (.seq r_aq_2 (.cond (.t 25) (.seq r_aq_3 .ret) (.seq r_aq_4 (.seq r_aq_5 (.cond (.t 40) (.seq r_aq_6 .ret) (.seq r_aq_7 (.seq r_aq_8 (.seq (.seq r_aq_9 (.block 0 (.seq (.block 4 (.seq (.block 3 (.seq (.block 2 (.seq (.block 1 (.seq (.seq (.seq (.seq blw (.cond (.t 48) .skip blv)) (.cond (.t 48) (.exit 1) .skip)) (.seq (.seq blu (.cond (.t 51) (.exit 2) .skip)) (.seq blt (.cond (.t 53) (.exit 3) .skip)))) (.exit 4))) (.seq (.seq bls (.seq (.seq blr (.cond (.t 65) (.seq blq .ret) .skip)) (.seq blp (.seq (.seq blo (.cond (.t 73) (.seq bln (.seq blm .ret)) .skip)) (.seq (.seq bll (.cond (.t 86) (.seq blk .ret) .skip)) (.seq blj (.seq bli .ret))))))) (.exit 0)))) blh)) (.seq blg (.exit 0)))) (.seq (.seq blf .ret) (.exit 0))))) (.seq ble (.cond (.t 119) (.seq bld .ret) (.seq (.seq blc (.block 5 (.loop av1))) (.seq aqg .ret))))))))))))))
def i_aq:IFunc:=⟨2,[.cell 4 (some 5),.t 5,.t 6],c_aq⟩
def a_aq:=zzy (zzz 34 [aqh,.ret,aqj,aqk,blc,bld,ble,blf,blg,blh,bli,blj,blk,bll,blm,bln,blo,blp,blq,blr,bls,blt,blu,blv,blw,r_aq_9,r_aq_8,r_aq_7,r_aq_6,r_aq_5,r_aq_4,r_aq_3,r_aq_2,r_aq_1,r_aq_0]++[(35,[4,5,6]),(33,[4,8,10,11,130,131,132])])
def r_b5_0:=rg [
oo 2 (.asg (.c .nilS)),by6 3 0] [0]
def r_b5_1:=rg [
bzk 9 0,bzh 10 false 9,by7 11 .gtr 10 262144] [0,11]
def r_b5_2:=rg [
oo 2 (.asg (.c .nilS)),by6 3 4] [2,3]
def r_b5_3:=rg [
oo 4 (.asg (.c .nilS))] [0,4]
def r_b5_4:=rg [
by6 5 0] [0,4,5]
def bkr:=rg [
bzk 12 5,bzk 13 0,bzh 14 false 13,by8 15 .lss 12 14] [0,4,5,15]
def bkq:=rg [
bzk 16 4,bzh 17 false 16,by7 18 .geq 17 4096] [0,4,5,18]
def bkp:=rg [
oo 2 (.asg (.c .nilS)),by6 3 4] [2,3]
def bko:=rg [
bzk 20 0,bzk 21 5,by9 22 n_aq [(.t 20),(.t 21)],bzk 19 22,bzr 23 19 0,bzr 24 19 1,bzr 25 19 2,oo 6 (.alloc [(.int .i64 0),(.int .i64 0),(.int .u64 0),.nilS,(.int .i64 0)]),bzp 5 6 23,bzq 7 24,bzq 8 25] [0,4,5,6,7,8]
def bkn:=rg [
bzk 26 8,by7 27 .neq 26 0] [0,4,5,6,7,8,27]
def ao9:=rg [
bzk 28 8,oo 2 (.asg (.c .nilS)),bzq 3 28] [2,3]
def ao8:=rg [
bzk 29 4,bzj 30 5 6,oo 31 (.lit false 5 1 (.agg [(.int .i64 0),(.int .i64 0),(.int .u64 0),(.sl []),(.int .i64 0)]) [(0,(.t 30))]),oo 32 (.append 5 56 (.t 29) (.t 31)),bzq 4 32] [0,4,5,7]
def ao7:=rg [
bzk 33 5,bzk 34 7,by8 35 .add 33 34,bzq 5 35] [0,4,5]
def avu:ICode:=(.seq (.seq bkr (.cond (.t 15) .skip (.exit 0))) (.block 1 (.seq (.seq bkq (.cond (.t 18) (.seq bkp .ret) .skip)) (.seq (.seq (.free 6) bko) (.seq (.seq bkn (.cond (.t 27) (.seq ao9 .ret) .skip)) (.seq ao8 ao7))))))
def bue:=bzd avu.eq_1
def ao6:=rg [
bzk 36 4,by9 37 n_fm [(.t 36)],bzq 2 37,by6 3 0] [2,3]
def c_b5:ICode:=(.seq r_b5_0 (.seq r_b5_1 (.cond (.t 11) (.seq r_b5_2 .ret) (.seq r_b5_3 (.seq (.seq r_b5_4 (.block 0 (.loop avu))) (.seq ao6 .ret))))))
def i_b5:IFunc:=⟨1,[.t 2,.t 3],c_b5⟩
def a_b5:Advice:=⟨[32],zzz 12 [ao7,ao8,ao9,bkn,bko,bkp,bkq,bkr,r_b5_4,r_b5_3,r_b5_2,r_b5_1,r_b5_0]++[(13,[2,3])],[],[(8,[6])],[],[]⟩
def r_dk_0:=rg [
oo 6 (.asg (.c .nilS))] [0,1,2]
def r_dk_1:=rg [
bzk 10 0,bzk 11 1,by9 12 n_eo [(.t 10),(.t 11),(ci 2)],bzk 9 12,bzr 13 9 0,bzr 14 9 1,bzq 7 13,bzq 8 14] [2,7,8]
def r_dk_2:=rg [
bzk 15 8,bzm 16 15] [2,7,16]
@[go_sem] def r_dk_3_o:Ops:=[
bzk 17 7,bzq 6 17]
def r_dk_3:=rg r_dk_3_o [6]
def r_dk_4:=rg [
bzk 18 7,bzk 19 2,bzh 20 false 19,oo 21 (.cvInt .u64 (.t 20)),oo 22 (.call true n_cm [(.t 18),(.t 21)]),bzk 23 2,oo 24 (.append 1 1 (.t 22) (.t 23)),by9 25 n_fh [(.t 24)],bzq 6 25] [6]
def c_dk:ICode:=(.seq r_dk_0 (.seq r_dk_1 (.seq r_dk_2 (.cond (.t 16) (.seq r_dk_3 .ret) (.seq r_dk_4 .ret)))))
def i_dk:IFunc:=⟨3,[.t 6],c_dk⟩
def a_dk:Advice:=⟨[22],zzz 4 [r_dk_4,.ret,r_dk_2,r_dk_1,r_dk_0]++[(3,[6])],[],[],[],[]⟩
def r_cm_0:=rg [
oo 4 (.asg (.c .nilS))] [0,1]
def r_cm_1:=rg [
bzk 6 0,oo 7 (.call true n_bx [(.t 6)]),bzq 5 7] [1,5]
def bie:=rg [
bzk 8 1,oo 9 (.bin .geq (.t 8) (.c (.int .u64 128)))] [1,5,9]
def bid:=rg [
bzk 10 5,bzk 11 1,oo 12 (.cvInt .u8 (.t 11)),oo 13 (.bin .or (.t 12) (.c (.int .u8 128))),oo 14 (.lit false 1 1 (.int .u8 0) [(0,(.t 13))]),oo 15 (.append 1 1 (.t 10) (.t 14)),bzq 5 15] [1,5]
def bic:=rg [
bzk 16 1,oo 17 (.bin .shr (.t 16) (.c (.int .u64 7))),bzq 1 17] [1,5]
def btr:ICode:=(.seq (.seq bie (.cond (.t 9) .skip (.exit 0))) (.block 1 (.seq bid bic)))
def buf:=bzd btr.eq_1
def bib:=rg [
bzk 18 5,bzk 19 1,oo 20 (.cvInt .u8 (.t 19)),oo 21 (.lit false 1 1 (.int .u8 0) [(0,(.t 20))]),oo 22 (.append 1 1 (.t 18) (.t 21)),by9 23 n_fh [(.t 22)],bzq 4 23] [4]
def c_cm:ICode:=(.seq r_cm_0 (.seq r_cm_1 (.seq (.block 0 (.loop btr)) (.seq bib .ret))))
def i_cm:IFunc:=⟨2,[.t 4],c_cm⟩
def a_cm:Advice:=⟨[7,15],zzz 4 [bic,bid,bie,r_cm_1,r_cm_0]++[(5,[4])],[],[],[],[]⟩
def r_bx_0:=rg [
oo 2 (.asg (.c .nilS))] [0]
def r_bx_1:=rg [
bzk 3 0,oo 4 (.isNil false (.t 3))] [0,4]
@[go_sem] def r_bx_2_o:Ops:=[
oo 2 (.asg (.c .nilS))]
def r_bx_2:=rg r_bx_2_o [2]
def r_bx_3:=rg [
oo 5 (.lit true 1 0 (.int .u8 0) []),bzk 6 0,oo 7 (.append 1 1 (.t 5) (.t 6)),bzq 2 7] [2]
def c_bx:ICode:=(.seq r_bx_0 (.seq r_bx_1 (.cond (.t 4) (.seq r_bx_2 .ret) (.seq r_bx_3 .ret))))
def i_bx:IFunc:=⟨1,[.t 2],c_bx⟩
def a_bx:Advice:=⟨[5],zzz 3 [r_bx_3,.ret,r_bx_1,r_bx_0]++[(2,[2])],[],[],[],[]⟩
def r_eo_0:=rg [
oo 6 (.asg (.c .nilS)),by5 7 false] [0,1,2]
def r_eo_1:=rg [
bzk 8 1,by7 9 .lss 8 1,bzk 10 9,bzc 11 10 false 1,og 12 10 false (.bin .gtr (.t 11) (ci 536870911)),bzo 13 10 12] [0,1,2,13]
@[go_sem] def r_eo_2_o:Ops:=[
bzk 14 0,by9 15 n_bx [(.t 14)],bzq 6 15,by5 7 false]
def r_eo_2:=rg r_eo_2_o [6,7]
def r_eo_3:=rg [
bzk 16 0,bzk 17 1,oo 18 (.cvInt .u64 (.t 17)),oo 19 (.bin .shl (.t 18) (.c (.int .u64 3))),bzk 20 2,oo 21 (.cvInt .u64 (.t 20)),by8 22 .or 19 21,by9 23 n_cm [(.t 16),(.t 22)],bzq 6 23,by5 7 true] [6,7]
def c_eo:ICode:=(.seq r_eo_0 (.seq r_eo_1 (.cond (.t 13) (.seq r_eo_2 .ret) (.seq r_eo_3 .ret))))
def i_eo:IFunc:=⟨3,[.t 6,.t 7],c_eo⟩
def a_eo:=zzy (zzz 3 [r_eo_3,.ret,r_eo_1,r_eo_0]++[(2,[6,7])])
def r_dw_0:=rg [
oo 6 (.asg (.c .nilS))] [0,1,2]
def r_dw_1:=rg [
bzk 10 0,bzk 11 1,by9 12 n_eo [(.t 10),(.t 11),(ci 0)],bzk 9 12,bzr 13 9 0,bzr 14 9 1,bzq 7 13,bzq 8 14] [2,7,8]
def r_dw_2:=rg [
bzk 15 8,bzm 16 15] [2,7,16]
@[go_sem] def r_dw_3_o:Ops:=[
bzk 17 7,bzq 6 17]
def r_dw_3:=rg r_dw_3_o [6]
def r_dw_4:=rg [
bzk 18 7,bzk 19 2,by9 20 n_cm [(.t 18),(.t 19)],bzq 6 20] [6]
def c_dw:ICode:=(.seq r_dw_0 (.seq r_dw_1 (.seq r_dw_2 (.cond (.t 16) (.seq r_dw_3 .ret) (.seq r_dw_4 .ret)))))
def i_dw:IFunc:=⟨3,[.t 6],c_dw⟩
def a_dw:=zzy (zzz 4 [r_dw_4,.ret,r_dw_2,r_dw_1,r_dw_0]++[(3,[6])])
def r_ab_0:=rg [
oo 3 (.box 6 (.t 0)),by5 6 false] [1,2,3]
def r_ab_1:=rg [
by9 20 n_fu [],bzm 21 20] [1,2,3,21]
@[go_sem] def r_ab_2_o:Ops:=[
by5 6 false]
def r_ab_2:=rg r_ab_2_o [6]
def r_ab_3:=rg [
bzj 22 6 3,by9 23 n_dj [(.t 22)],bzm 24 23,bzk 25 24,og 26 25 false (.load (some 6) (.t 3)),og 27 25 false (.call false n_da [(.t 26)]),og 28 25 false (.bin .neq (.t 27) (ci 0)),bzo 29 25 28,bzk 30 29,bzc 31 30 false 1,og 32 30 false (.len false (.t 31)),og 33 30 false (.bin .gtr (.t 32) (ci 2000)),bzo 34 30 33,bzk 35 34,bzc 36 35 false 2,og 37 35 false (.len false (.t 36)),og 38 35 false (.bin .gtr (.t 37) (ci 100)),bzo 39 35 38] [1,2,3,39]
def r_ab_4:=rg [
by5 6 true] [6]
def r_ab_5:=rg [
bzj 40 6 3,by9 41 n_dg [(.t 40)],bzq 7 41] [1,2,3,7]
def r_ab_6:=rg [
bzk 42 7,bzh 43 false 42,by7 44 .eql 43 0] [1,2,3,7,44]
@[go_sem] def r_ab_7_o:Ops:=[
by5 6 false]
def r_ab_7:=rg r_ab_7_o [6]
def r_ab_8:=rg [
bzk 46 7,oo 47 (.idxA 8 (.t 46) (ci 0)),bzj 48 8 47,bzk 49 1,by9 50 n_al [(.t 48),(.t 49)],bzk 45 50,bzr 51 45 0,bzr 52 45 1,bzq 8 51,bzq 9 52] [1,2,3,7,8,9]
def r_ab_9:=rg [
bzj 54 6 3,bzk 55 1,by9 56 n_ai [(.t 54),(.t 55)],bzk 53 56,bzr 57 53 0,bzr 58 53 1,bzq 10 57,bzq 11 58] [2,3,7,8,9,10,11]
def bq4:=rg [
bzk 59 9,bzk 60 11,by8 61 .neq 59 60,bzk 62 61,bzc 63 62 false 8,og 64 62 false (.len false (.t 63)),bzc 65 62 false 10,og 66 62 false (.len false (.t 65)),og 67 62 false (.bin .neq (.t 64) (.t 66)),bzo 68 62 67] [2,3,7,8,10,68]
@[go_sem] def bq3:Ops:=[
by5 6 false]
def r_ab_11:=rg bq3 [6]
def bq2:=rg [
by6 12 0] [2,3,7,8,10,12]
def asn:=rg [
bzk 69 12,bzk 70 8,bzh 71 false 70,by8 72 .lss 69 71] [2,3,7,8,10,12,72]
@[go_sem] def aju:Ops:=[
bzk 75 8,bzk 76 12,bzf 77 15 75 76,bzj 78 15 77,by9 79 n_dx [(.t 78)],bzk 80 10,bzk 81 12,bzf 82 15 80 81,bzj 83 15 82,by9 84 n_du [(.t 79),(.t 83)],bzm 85 84]
def ajv:List (Nat×Nat):=[(0,1),(0,5),(1,5),(2,5),(3,5),(4,5),(0,6),(1,6),(2,6),(3,6),(4,6),(5,6),(0,7),(1,7),(2,7),(3,7),(4,7),(0,8),(1,8),(2,8),(3,8),(4,8)]
def asm:ICode:= .region aju ajv [2,3,7,8,10,12,85]
@[go_sem] theorem r_ab_14_u:Gu X K s asm ajv aju [2,3,7,8,10,12,85]:=go_regionU' _ _ _ _
@[go_sem] def bq0:Ops:=[
by5 6 false]
def bq1:=rg bq0 [6]
def asl:=rg [
bzk 73 12,by7 74 .add 73 1,bzq 12 74] [2,3,7,8,10,12]
def av6:ICode:=(.seq (.seq asn (.cond (.t 72) .skip (.exit 0))) (.seq (.block 1 (.seq asm (.cond (.t 85) (.seq bq1 .ret) .skip))) asl))
def bug:=bzd av6.eq_1
def bqz:=rg [
oo 13 (.asg (.c .nilS))] [2,3,7,13]
def bqy:=rg [
oo 14 (.asg (.c .nilS))] [2,3,7,13,14]
def bqx:=rg [
by6 15 0] [2,3,7,13,14,15]
def ask:=rg [
bzk 86 15,bzk 87 2,bzh 88 false 87,by8 89 .lss 86 88] [2,3,7,13,14,15,89]
@[go_sem] def ajn:Ops:=[
bzk 92 13,bzk 93 2,bzk 94 15,bzf 95 1 93 94,bzi 96 95,oo 97 (.cvInt .i64 (.t 96)),bzk 98 2,bzk 99 15,bzf 100 1 98 99,bzi 101 100,oo 102 (.bin .rem (.t 101) (.c (.int .u8 2))),oo 103 (.bin .eql (.t 102) (.c (.int .u8 1))),oo 104 (.build [(.int .i64 0),(.bool false),(.bool false),(.bool false),(.int .i64 0),(.int .i64 0),.nilS,.nilS,(.bool false),(.int .i64 0),(.int .i64 0),.nilS,.nilS,(.bool false),(.int .i64 0)] [(0,1,(.t 97)),(1,1,(.t 103))]),oo 105 (.lit false 15 1 (.agg [(.int .i64 0),(.bool false),(.bool false),(.bool false),(.int .i64 0),(.int .i64 0),(.sl []),(.sl []),(.bool false),(.int .i64 0),(.int .i64 0),(.sl []),(.sl []),(.bool false),(.int .i64 0)]) [(0,(.t 104))]),oo 106 (.append 15 176 (.t 92) (.t 105)),bzq 13 106]
def ajo:List (Nat×Nat):=[(0,1),(0,2),(1,2),(0,3),(0,4),(0,5),(0,6),(1,6),(2,6),(3,6),(4,6),(5,6),(0,7),(1,7),(2,7),(3,7),(4,7),(5,7),(6,7),(0,8),(1,8),(2,8),(3,8),(4,8),(5,8),(0,9),(1,9),(2,9),(3,9),(4,9),(5,9),(0,10),(1,10),(2,10),(3,10),(4,10),(5,10),(0,11),(1,11),(2,11),(3,11),(4,11),(5,11),(0,12),(0,13)]
def asj:ICode:= .region ajn ajo [2,3,7,13,14,15]
@[go_sem] theorem r_ab_22_u:Gu X K s asj ajo ajn [2,3,7,13,14,15]:=go_regionU' _ _ _ _
def asi:=rg [
bzk 107 14,bzk 108 13,bzk 109 15,bzf 110 15 108 109,bzj 111 15 110,by9 112 n_dx [(.t 111)],oo 113 (.lit false 15 1 (.agg [(.int .i64 0),(.bool false),(.bool false),(.bool false),(.int .i64 0),(.int .i64 0),(.sl []),(.sl []),(.bool false),(.int .i64 0),(.int .i64 0),(.sl []),(.sl []),(.bool false),(.int .i64 0)]) [(0,(.t 112))]),oo 114 (.append 15 176 (.t 107) (.t 113)),bzq 14 114] [2,3,7,13,14,15]
def ash:=rg [
bzk 90 15,by7 91 .add 90 1,bzq 15 91] [2,3,7,13,14,15]
def av5:ICode:=(.seq (.seq ask (.cond (.t 89) .skip (.exit 2))) (.seq (.block 3 (.seq asj asi)) ash))
def buh:=bzd av5.eq_1
def bqw:=rg [
bzk 115 7,oo 116 (.idxA 8 (.t 115) (ci 0)),bzj 117 8 116,bzk 118 13,by9 119 n_bp [(.t 117),(.t 118)],bzq 16 119] [3,7,13,14,16]
def bqv:=rg [
bzk 121 7,oo 122 (.idxA 8 (.t 121) (ci 0)),bzj 123 8 122,bzk 124 16,by9 125 n_al [(.t 123),(.t 124)],bzk 120 125,bzr 126 120 0,bzr 127 120 1,bzq 17 126,bzq 18 127] [3,13,14,16,17,18]
@[go_sem] def ajh:Ops:=[
bzk 128 16,oo 129 (.b2s (.t 128)),bzj 130 6 3,bzk 131 14,by9 132 n_a8 [(.t 130),(.t 131)],oo 133 (.b2s (.t 132)),by8 134 .neq 129 133,bzk 135 134,bzc 136 135 false 18,og 137 135 false (.bin .neq (.t 136) (ci 0)),bzo 138 135 137,bzk 139 138,bzc 140 139 false 17,og 141 139 false (.len false (.t 140)),bzc 142 139 false 13,og 143 139 false (.len false (.t 142)),og 144 139 false (.bin .neq (.t 141) (.t 143)),bzo 145 139 144]
def aji:List (Nat×Nat):=[(0,2),(1,2),(0,3),(1,3),(2,3),(0,4),(1,4),(0,5),(1,5),(12,14),(13,14),(12,15),(13,15)]
def bqu:ICode:= .region ajh aji [13,17,145]
@[go_sem] theorem r_ab_28_u:Gu X K s bqu aji ajh [13,17,145]:=go_regionU' _ _ _ _
@[go_sem] def bqt:Ops:=[
by5 6 false]
def r_ab_29:=rg bqt [6]
def bqs:=rg [
by6 19 0] [13,17,19]
def asf:=rg [
bzk 146 19,bzk 147 17,bzh 148 false 147,by8 149 .lss 146 148] [13,17,19,149]
@[go_sem] def ajd:Ops:=[
bzk 152 17,bzk 153 19,bzf 154 15 152 153,bzj 155 15 154,bzk 156 13,bzk 157 19,bzf 158 15 156 157,bzj 159 15 158,by9 160 n_eu [(.t 155),(.t 159)],bzm 161 160]
def aje:List (Nat×Nat):=[(0,1),(0,4),(1,4),(2,4),(3,4),(0,5),(1,5),(2,5),(3,5),(4,5),(0,6),(1,6),(2,6),(3,6),(0,7),(1,7),(2,7),(3,7)]
def ase:ICode:= .region ajd aje [13,17,19,161]
@[go_sem] theorem r_ab_32_u:Gu X K s ase aje ajd [13,17,19,161]:=go_regionU' _ _ _ _
@[go_sem] def bqq:Ops:=[
by5 6 false]
def bqr:=rg bqq [6]
def asd:=rg [
bzk 150 19,by7 151 .add 150 1,bzq 19 151] [13,17,19]
def av4:ICode:=(.seq (.seq asf (.cond (.t 149) .skip (.exit 4))) (.seq (.block 5 (.seq ase (.cond (.t 161) (.seq bqr .ret) .skip))) asd))
def bui:=bzd av4.eq_1
def bqp:=rg [
by5 6 true] [6]
def c_ab:ICode:=(.seq r_ab_0 (.seq r_ab_1 (.cond (.t 21) (.seq r_ab_2 .ret) (.seq r_ab_3 (.cond (.t 39) (.seq r_ab_4 .ret) (.seq r_ab_5 (.seq r_ab_6 (.cond (.t 44) (.seq r_ab_7 .ret) (.seq r_ab_8 (.seq r_ab_9 (.seq bq4 (.cond (.t 68) (.seq r_ab_11 .ret) (.seq (.seq bq2 (.block 0 (.loop av6))) (.seq bqz (.seq bqy (.seq (.seq bqx (.block 2 (.loop av5))) (.seq (.seq (.demote [13]) bqw) (.seq bqv (.seq (.seq (.demote [14]) bqu) (.cond (.t 145) (.seq r_ab_29 .ret) (.seq (.seq bqs (.block 4 (.loop av4))) (.seq bqp .ret))))))))))))))))))))))
def i_ab:IFunc:=⟨3,[.t 6],c_ab⟩
def a_ab:Advice:=⟨[106,114],bzg [(30,bqs),(23,asi),(13,asn),(12,bq2),(10,bq4),(9,r_ab_9),(8,r_ab_8),(6,r_ab_6),(5,r_ab_5),(4,r_ab_4),(3,r_ab_3),(1,r_ab_1),(0,r_ab_0)]++[(33,[6]),(32,[6]),(31,[13,17,19,161]),(29,[13,17,19,149]),(28,[13,17,19]),(27,[6]),(26,[13,17,145]),(25,[3,13,14,16,17,18]),(24,[3,7,13,14,16]),(21,[2,3,7,13,14,15]),(22,[2,3,7,13,14,15]),(20,[2,3,7,13,14,15,89]),(19,[2,3,7,13,14,15]),(18,[2,3,7,13,14]),(17,[2,3,7,13]),(14,[2,3,7,8,10,12]),(16,[6]),(15,[2,3,7,8,10,12,85]),(11,[6]),(7,[6]),(2,[6])],[(24,[13]),(26,[14])],[],[],[]⟩
def tbl:List (FuncId×IFunc):=[(n_fc,i_fc),(n_fe,i_fe),(n_eu,i_eu),(n_b0,i_b0),(n_ew,i_ew),(n_br,i_br),(n_dy,i_dy),(n_ce,i_ce),(n_ae,i_ae),(n_a8,i_a8),(n_ba,i_ba),(n_du,i_du),(n_dx,i_dx),(n_bv,i_bv),(n_bl,i_bl),(n_dt,i_dt),(n_dm,i_dm),(n_bt,i_bt),(n_cx,i_cx),(n_db,i_db),(n_am,i_am),(n_ah,i_ah),(n_c5,i_c5),(n_c6,i_c6),(n_bu,i_bu),(n_ac,i_ac),(n_ao,i_ao),(n_cw,i_cw),(n_df,i_df),(n_cu,i_cu),(n_bz,i_bz),(n_dh,i_dh),(n_di,i_di),(n_dq,i_dq),(n_bg,i_bg),(n_aa,i_aa),(n_bb,i_bb),(n_bw,i_bw),(n_az,i_az),(n_af,i_af),(n_aw,i_aw),(n_ai,i_ai),(n_ag,i_ag),(n_au,i_au),(n_da,i_da),(n_av,i_av),(n_dj,i_dj),(n_cc,i_cc),(n_bo,i_bo),(n_b9,i_b9),(n_cl,i_cl),(n_eh,i_eh),(n_bn,i_bn),(n_d8,i_d8),(n_a6,i_a6),(n_cy,i_cy),(n_cz,i_cz),(n_dv,i_dv),(n_ax,i_ax),(n_ez,i_ez),(n_cf,i_cf),(n_dz,i_dz),(n_ed,i_ed),(n_ct,i_ct),(n_em,i_em),(n_ck,i_ck),(n_ej,i_ej),(n_cq,i_cq),(n_b6,i_b6),(n_dc,i_dc),(n_ay,i_ay),(n_bm,i_bm),(n_bk,i_bk),(n_cr,i_cr),(n_dl,i_dl),(n_co,i_co),(n_e9,i_e9),(n_fa,i_fa),(n_de,i_de),(n_aj,i_aj),(n_ak,i_ak),(n_en,i_en),(n_dn,i_dn),(n_al,i_al),(n_ef,i_ef),(n_fi,i_fi),(n_bc,i_bc),(n_b7,i_b7),(n_bp,i_bp),(n_bq,i_bq),(n_a7,i_a7),(n_ap,i_ap),(n_bh,i_bh),(n_d7,i_d7),(n_dg,i_dg),(n_dr,i_dr),(n_ey,i_ey),(n_cd,i_cd),(n_aq,i_aq),(n_b5,i_b5),(n_dk,i_dk),(n_cm,i_cm),(n_bx,i_bx),(n_eo,i_eo),(n_dw,i_dw),(n_ab,i_ab)]
def clips:List FuncId:=[26,118,51,20,46,44,41,40,48,49]
noncomputable def tab:List AF:=[⟨75,Tryz.f75,⟨[],[(8,[4]),(7,[4]),(6,[5,32]),(5,[0,5]),(4,[0,1,5,16]),(3,[0,1,5]),(2,[0,1,5,12]),(1,[0,1,5]),(0,[0,1])],[],[],[],[]⟩⟩,
⟨74,Tryz.f74,⟨[11],[(1,[6]),(0,[0,1,2])],[],[],[(11,0)],[]⟩⟩,
⟨110,Tryz.f110,⟨[],[(0,[])],[],[],[],[]⟩⟩,
⟨109,Tryz.f109,⟨[],[(1,[]),(0,[0,1,2,6])],[],[],[],[]⟩⟩,
⟨108,Tryz.f108,⟨[],[(2,[]),(1,[0,1]),(0,[0,1,4])],[],[],[],[]⟩⟩,
⟨107,Tryz.f107,⟨[],[(12,[4]),(11,[8]),(10,[8,42]),(9,[0,8]),(8,[0,5,7,8,34]),(7,[0,1,5,7,8]),(6,[0,1,5,7]),(5,[0,1,5]),(4,[0,1,5,6,21]),(3,[0,1,5,6]),(2,[0,1,5]),(1,[0,1]),(0,[0,1])],[],[],[],[]⟩⟩,
⟨106,Tryz.f106,⟨[],[(0,[])],[],[],[],[]⟩⟩,
⟨105,Tryz.f105,⟨[],[(0,[])],[],[],[],[]⟩⟩,
⟨104,Tryz.f104,⟨[],[(1,[6]),(0,[0,1,2])],[],[],[],[]⟩⟩,
⟨103,Tryz.f103,⟨[],[(0,[])],[],[],[],[]⟩⟩,
⟨70,Tryz.f70,⟨[],[(29,[4]),(10,[5]),(9,[5,6,10]),(15,[5]),(14,[5,6,10]),(13,[3,5,6,7,10]),(12,[3,5,6,7,10,30]),(17,[5]),(20,[5]),(19,[5,8,10]),(22,[5]),(26,[5]),(25,[3,5]),(24,[3,5,6,9,65]),(28,[5]),(27,[5,6,9,80]),(23,[3,5,6,9,18,62]),(21,[3,5,6,9,10,18,57]),(18,[3,5,6,8,9,10,18,49]),(16,[3,5,6,7,8,9,10,18,44]),(11,[3,5,6,7,8,9,10,18,27]),(8,[3,5,6,7,8,9,10,18,19]),(7,[3,5,6,7,8,9,10,18]),(6,[2,3,5,6,7,8,9,10]),(5,[2,3,5,6,7,8,9]),(4,[2,3,5,6,7,8]),(3,[2,3,5,6,7]),(2,[2,3,5,6]),(1,[2,3,5]),(0,[2,3])],[],[],[],[]⟩⟩,
⟨16,Tryz.f16,⟨[96,106],[(31,[2,3]),(30,[2,3]),(29,[2,6,122]),(28,[2,6,7,26,27,28]),(26,[2,6,7,26,27,28]),(27,[2,6,7,26,27,28]),(25,[2,6,7,12,26,27,28,85]),(24,[2,6,7,9,10,12,26,27,28,61,62]),(23,[2,6,7,9,10,12,26,27,28,61,62]),(22,[2,6,7,9,10,12,14,15,26,27,28,61,62]),(21,[2,6,7,9,10,12,14,15,26,27,28,61,62]),(20,[2,6,7,9,10,12,14,26,27,28,61,62]),(19,[2,6,7,9,10,12,26,27,28,61,62,63]),(18,[2,6,7,9,10,12,26,27,28,61,62]),(17,[2,6,7,9,10,12,13,26,27,28]),(16,[2,6,7,9,10,12,13,26,27,28,57]),(15,[2,6,7,9,10,12,13,26,27,28,56]),(14,[2,6,7,9,10,12,13,26,27,28]),(13,[2,6,7,9,10,12,26,27,28]),(12,[2,3]),(11,[2,6,7,9,10,11,26,27,28,52]),(10,[2,6,7,9,10,11,26,27,28]),(9,[2,6,7,9,26,27,28,44]),(8,[2,6,7,9,26,27,28]),(7,[2,6,7,26,27,28,29]),(6,[2,6,7,26,27,28]),(5,[2,4,6,7]),(4,[2,4,6]),(3,[2,3]),(2,[2,4,5,23]),(1,[2,4,5]),(0,[0,2])],[],[(8,[9]),(13,[12])],[],[]⟩⟩,
⟨38,Tryz.f38,⟨[],[(7,[2]),(6,[3,6,7,8]),(5,[3,6,7,8]),(4,[3,4,5,6,7,8]),(3,[3,6,7,8,9]),(2,[3,6,7,8]),(1,[0,3]),(0,[0])],[],[],[],[]⟩⟩,
⟨78,Tryz.f78,⟨[],[(1,[2]),(0,[0])],[],[],[],[]⟩⟩,
⟨114,Tryz.f114,⟨[],[(7,[4]),(6,[0,1,7,8]),(5,[4]),(4,[0,1,5,7,8,16]),(3,[0,1,5,7,8]),(2,[0,1,7,8,9]),(1,[0,1,7,8]),(0,[0,1])],[],[],[],[]⟩⟩,
⟨77,Tryz.f77,⟨[],[(1,[4]),(0,[0,1])],[],[],[],[]⟩⟩,
⟨37,Tryz.f37,⟨[],[(1,[2]),(0,[0])],[],[],[],[]⟩⟩,
⟨15,Tryz.f15,⟨[87],[(25,[2,3]),(22,[2,3]),(24,[2,3]),(23,[5,93]),(21,[5,90]),(20,[4,5]),(19,[4,5,52,53,54]),(18,[4,5,52,53,54]),(17,[4,5,10,52,53,54]),(16,[4,5,9,10,52,53,54,75]),(15,[4,5,9,10,52,53,54]),(14,[4,5,9,52,53,54,68]),(13,[4,5,9,52,53,54]),(12,[4,5,9,52,53,54]),(11,[4,5,52,53,54,55]),(10,[4,5,52,53,54]),(9,[1,4,5,22,23,24]),(8,[1,4,5,22,23,24]),(7,[1,4,5,7,22,23,24,39]),(6,[1,4,5,7,22,23,24]),(5,[1,4,5,7,22,23,24]),(4,[1,4,5,22,23,24,25]),(3,[1,4,5,22,23,24]),(2,[1,4,5]),(1,[1,4]),(0,[1])],[],[(5,[7]),(12,[9])],[],[]⟩⟩,
⟨4,Tryz.f4,⟨[],[(7,[0]),(6,[2,3,4,6,7]),(5,[0]),(4,[2,3,4,5,26]),(3,[2,3,4,5]),(2,[2,3,4]),(1,[1,2]),(0,[])],[],[],[],[]⟩⟩]
set_option maxRecDepth 100000 in
theorem k_fc:cFunc Tryz.prog a_fc Tryz.f76=some i_fc:=y9
set_option maxRecDepth 100000 in
theorem k_fe:cFunc Tryz.prog a_fe Tryz.f36=some i_fe:=y9
set_option maxRecDepth 100000 in
theorem k_eu:cFunc Tryz.prog a_eu Tryz.f14=some i_eu:=y9
set_option maxRecDepth 100000 in
theorem k_b0:cFunc Tryz.prog a_b0 Tryz.f34=some i_b0:=y9
set_option maxRecDepth 100000 in
theorem k_ew:cFunc Tryz.prog a_ew Tryz.f111=some i_ew:=y9
set_option maxRecDepth 100000 in
theorem k_br:cFunc Tryz.prog a_br Tryz.f72=some i_br:=y9
set_option maxRecDepth 100000 in
theorem k_dy:cFunc Tryz.prog a_dy Tryz.f71=some i_dy:=y9
set_option maxRecDepth 100000 in
theorem k_ce:cFunc Tryz.prog a_ce Tryz.f73=some i_ce:=y9
set_option maxRecDepth 100000 in
theorem k_ae:cFunc Tryz.prog a_ae Tryz.f35=some i_ae:=y9
set_option maxRecDepth 100000 in
theorem k_a8:cFunc Tryz.prog a_a8 Tryz.f13=some i_a8:=y9
set_option maxRecDepth 100000 in
theorem k_ba:cFunc Tryz.prog a_ba Tryz.f31=some i_ba:=y9
set_option maxRecDepth 100000 in
theorem k_du:cFunc Tryz.prog a_du Tryz.f10=some i_du:=y9
set_option maxRecDepth 100000 in
theorem k_dx:cFunc Tryz.prog a_dx Tryz.f11=some i_dx:=y9
set_option maxRecDepth 100000 in
theorem k_bv:cFunc Tryz.prog a_bv Tryz.f102=some i_bv:=y9
set_option maxRecDepth 100000 in
theorem k_bl:cFunc Tryz.prog a_bl Tryz.f101=some i_bl:=y9
set_option maxRecDepth 100000 in
theorem k_dt:cFunc Tryz.prog a_dt Tryz.f100=some i_dt:=y9
set_option maxRecDepth 100000 in
theorem k_dm:cFunc Tryz.prog a_dm Tryz.f128=some i_dm:=y9
set_option maxRecDepth 100000 in
theorem k_bt:cFunc Tryz.prog a_bt Tryz.f112=some i_bt:=y9
set_option maxRecDepth 100000 in
theorem k_cx:cFunc Tryz.prog a_cx Tryz.f113=some i_cx:=y9
set_option maxRecDepth 100000 in
theorem k_db:cFunc Tryz.prog a_db Tryz.f127=some i_db:=y9
set_option maxRecDepth 100000 in
theorem k_am:cFunc Tryz.prog a_am Tryz.f99=some i_am:=y9
set_option maxRecDepth 100000 in
theorem k_ah:cFunc Tryz.prog a_ah Tryz.f66=some i_ah:=y9
set_option maxRecDepth 100000 in
theorem k_c5:cFunc Tryz.prog a_c5 Tryz.f98=some i_c5:=y9
set_option maxRecDepth 100000 in
theorem k_c6:cFunc Tryz.prog a_c6 Tryz.f126=some i_c6:=y9
set_option maxRecDepth 100000 in
theorem k_bu:cFunc Tryz.prog a_bu Tryz.f97=some i_bu:=y9
set_option maxRecDepth 100000 in
theorem k_ac:cFunc Tryz.prog a_ac Tryz.f65=some i_ac:=y9
set_option maxRecDepth 100000 in
theorem k_ao:cFunc Tryz.prog a_ao Tryz.f64=some i_ao:=y9
set_option maxRecDepth 100000 in
theorem k_cw:cFunc Tryz.prog a_cw Tryz.f96=some i_cw:=y9
set_option maxRecDepth 100000 in
theorem k_df:cFunc Tryz.prog a_df Tryz.f63=some i_df:=y9
set_option maxRecDepth 100000 in
theorem k_cu:cFunc Tryz.prog a_cu Tryz.f62=some i_cu:=y9
set_option maxRecDepth 100000 in
theorem k_bz:cFunc Tryz.prog a_bz Tryz.f61=some i_bz:=y9
set_option maxRecDepth 100000 in
theorem k_dh:cFunc Tryz.prog a_dh Tryz.f95=some i_dh:=y9
set_option maxRecDepth 100000 in
theorem k_di:cFunc Tryz.prog a_di Tryz.f60=some i_di:=y9
set_option maxRecDepth 100000 in
theorem k_dq:cFunc Tryz.prog a_dq Tryz.f59=some i_dq:=y9
set_option maxRecDepth 100000 in
theorem k_bg:cFunc Tryz.prog a_bg Tryz.f58=some i_bg:=y9
set_option maxRecDepth 100000 in
theorem k_aa:cFunc Tryz.prog a_aa Tryz.f30=some i_aa:=y9
set_option maxRecDepth 100000 in
theorem k_bb:cFunc Tryz.prog a_bb Tryz.f29=some i_bb:=y9
set_option maxRecDepth 100000 in
theorem k_bw:cFunc Tryz.prog a_bw Tryz.f28=some i_bw:=y9
set_option maxRecDepth 100000 in
theorem k_az:cFunc Tryz.prog a_az Tryz.f94=some i_az:=y9
set_option maxRecDepth 100000 in
theorem k_af:cFunc Tryz.prog a_af Tryz.f57=some i_af:=y9
set_option maxRecDepth 100000 in
theorem k_aw:cFunc Tryz.prog a_aw Tryz.f27=some i_aw:=y9
set_option maxRecDepth 100000 in
theorem k_ai:cFunc Tryz.prog a_ai Tryz.f9=some i_ai:=y9
set_option maxRecDepth 100000 in
theorem k_ag:cFunc Tryz.prog a_ag Tryz.f42=some i_ag:=y9
set_option maxRecDepth 100000 in
theorem k_au:cFunc Tryz.prog a_au Tryz.f18=some i_au:=y9
set_option maxRecDepth 100000 in
theorem k_da:cFunc Tryz.prog a_da Tryz.f6=some i_da:=y9
set_option maxRecDepth 100000 in
theorem k_av:cFunc Tryz.prog a_av Tryz.f17=some i_av:=y9
set_option maxRecDepth 100000 in
theorem k_dj:cFunc Tryz.prog a_dj Tryz.f5=some i_dj:=y9
set_option maxRecDepth 100000 in
theorem k_cc:cFunc Tryz.prog a_cc Tryz.f93=some i_cc:=y9
set_option maxRecDepth 100000 in
theorem k_bo:cFunc Tryz.prog a_bo Tryz.f92=some i_bo:=y9
set_option maxRecDepth 100000 in
theorem k_b9:cFunc Tryz.prog a_b9 Tryz.f125=some i_b9:=y9
set_option maxRecDepth 100000 in
theorem k_cl:cFunc Tryz.prog a_cl Tryz.f91=some i_cl:=y9
set_option maxRecDepth 100000 in
theorem k_eh:cFunc Tryz.prog a_eh Tryz.f124=some i_eh:=y9
set_option maxRecDepth 100000 in
theorem k_bn:cFunc Tryz.prog a_bn Tryz.f123=some i_bn:=y9
set_option maxRecDepth 100000 in
theorem k_d8:cFunc Tryz.prog a_d8 Tryz.f122=some i_d8:=y9
set_option maxRecDepth 100000 in
theorem k_a6:cFunc Tryz.prog a_a6 Tryz.f90=some i_a6:=y9
set_option maxRecDepth 100000 in
theorem k_cy:cFunc Tryz.prog a_cy Tryz.f121=some i_cy:=y9
set_option maxRecDepth 100000 in
theorem k_cz:cFunc Tryz.prog a_cz Tryz.f120=some i_cz:=y9
set_option maxRecDepth 100000 in
theorem k_dv:cFunc Tryz.prog a_dv Tryz.f89=some i_dv:=y9
set_option maxRecDepth 100000 in
theorem k_ax:cFunc Tryz.prog a_ax Tryz.f55=some i_ax:=y9
set_option maxRecDepth 100000 in
theorem k_ez:cFunc Tryz.prog a_ez Tryz.f56=some i_ez:=y9
set_option maxRecDepth 100000 in
theorem k_cf:cFunc Tryz.prog a_cf Tryz.f88=some i_cf:=y9
set_option maxRecDepth 100000 in
theorem k_dz:cFunc Tryz.prog a_dz Tryz.f138=some i_dz:=y9
set_option maxRecDepth 100000 in
theorem k_ed:cFunc Tryz.prog a_ed Tryz.f150=some i_ed:=y9
set_option maxRecDepth 100000 in
theorem k_ct:cFunc Tryz.prog a_ct Tryz.f137=some i_ct:=y9
set_option maxRecDepth 100000 in
theorem k_em:cFunc Tryz.prog a_em Tryz.f136=some i_em:=y9
set_option maxRecDepth 100000 in
theorem k_ck:cFunc Tryz.prog a_ck Tryz.f147=some i_ck:=y9
set_option maxRecDepth 100000 in
theorem k_ej:cFunc Tryz.prog a_ej Tryz.f135=some i_ej:=y9
set_option maxRecDepth 100000 in
theorem k_cq:cFunc Tryz.prog a_cq Tryz.f156=some i_cq:=y9
set_option maxRecDepth 100000 in
theorem k_b6:cFunc Tryz.prog a_b6 Tryz.f146=some i_b6:=y9
set_option maxRecDepth 100000 in
theorem k_dc:cFunc Tryz.prog a_dc Tryz.f134=some i_dc:=y9
set_option maxRecDepth 100000 in
theorem k_ay:cFunc Tryz.prog a_ay Tryz.f119=some i_ay:=y9
set_option maxRecDepth 100000 in
theorem k_bm:cFunc Tryz.prog a_bm Tryz.f87=some i_bm:=y9
set_option maxRecDepth 100000 in
theorem k_bk:cFunc Tryz.prog a_bk Tryz.f86=some i_bk:=y9
set_option maxRecDepth 100000 in
theorem k_cr:cFunc Tryz.prog a_cr Tryz.f84=some i_cr:=y9
set_option maxRecDepth 100000 in
theorem k_dl:cFunc Tryz.prog a_dl Tryz.f85=some i_dl:=y9
set_option maxRecDepth 100000 in
theorem k_co:cFunc Tryz.prog a_co Tryz.f83=some i_co:=y9
set_option maxRecDepth 100000 in
theorem k_e9:cFunc Tryz.prog a_e9 Tryz.f133=some i_e9:=y9
set_option maxRecDepth 100000 in
theorem k_fa:cFunc Tryz.prog a_fa Tryz.f117=some i_fa:=y9
set_option maxRecDepth 100000 in
theorem k_de:cFunc Tryz.prog a_de Tryz.f82=some i_de:=y9
set_option maxRecDepth 100000 in
theorem k_aj:cFunc Tryz.prog a_aj Tryz.f54=some i_aj:=y9
set_option maxRecDepth 100000 in
theorem k_ak:cFunc Tryz.prog a_ak Tryz.f25=some i_ak:=y9
set_option maxRecDepth 100000 in
theorem k_en:cFunc Tryz.prog a_en Tryz.f24=some i_en:=y9
set_option maxRecDepth 100000 in
theorem k_dn:cFunc Tryz.prog a_dn Tryz.f23=some i_dn:=y9
set_option maxRecDepth 100000 in
theorem k_al:cFunc Tryz.prog a_al Tryz.f8=some i_al:=y9
set_option maxRecDepth 100000 in
theorem k_ef:cFunc Tryz.prog a_ef Tryz.f131=some i_ef:=y9
set_option maxRecDepth 100000 in
theorem k_fi:cFunc Tryz.prog a_fi Tryz.f129=some i_fi:=y9
set_option maxRecDepth 100000 in
theorem k_bc:cFunc Tryz.prog a_bc Tryz.f53=some i_bc:=y9
set_option maxRecDepth 100000 in
theorem k_b7:cFunc Tryz.prog a_b7 Tryz.f33=some i_b7:=y9
set_option maxRecDepth 100000 in
theorem k_bp:cFunc Tryz.prog a_bp Tryz.f12=some i_bp:=y9
set_option maxRecDepth 100000 in
theorem k_bq:cFunc Tryz.prog a_bq Tryz.f45=some i_bq:=y9
set_option maxRecDepth 100000 in
theorem k_a7:cFunc Tryz.prog a_a7 Tryz.f21=some i_a7:=y9
set_option maxRecDepth 100000 in
theorem k_ap:cFunc Tryz.prog a_ap Tryz.f79=some i_ap:=y9
set_option maxRecDepth 100000 in
theorem k_bh:cFunc Tryz.prog a_bh Tryz.f43=some i_bh:=y9
set_option maxRecDepth 100000 in
theorem k_d7:cFunc Tryz.prog a_d7 Tryz.f19=some i_d7:=y9
set_option maxRecDepth 100000 in
theorem k_dg:cFunc Tryz.prog a_dg Tryz.f7=some i_dg:=y9
set_option maxRecDepth 100000 in
theorem k_dr:cFunc Tryz.prog a_dr Tryz.f52=some i_dr:=y9
set_option maxRecDepth 100000 in
theorem k_ey:cFunc Tryz.prog a_ey Tryz.f39=some i_ey:=y9
set_option maxRecDepth 100000 in
theorem k_cd:cFunc Tryz.prog a_cd Tryz.f80=some i_cd:=y9
set_option maxRecDepth 100000 in
theorem k_aq:cFunc Tryz.prog a_aq Tryz.f47=some i_aq:=y9
set_option maxRecDepth 100000 in
theorem k_b5:cFunc Tryz.prog a_b5 Tryz.f22=some i_b5:=y9
set_option maxRecDepth 100000 in
theorem k_dk:cFunc Tryz.prog a_dk Tryz.f32=some i_dk:=y9
set_option maxRecDepth 100000 in
theorem k_cm:cFunc Tryz.prog a_cm Tryz.f68=some i_cm:=y9
set_option maxRecDepth 100000 in
theorem k_bx:cFunc Tryz.prog a_bx Tryz.f50=some i_bx:=y9
set_option maxRecDepth 100000 in
theorem k_eo:cFunc Tryz.prog a_eo Tryz.f67=some i_eo:=y9
set_option maxRecDepth 100000 in
theorem k_dw:cFunc Tryz.prog a_dw Tryz.f69=some i_dw:=y9
set_option maxRecDepth 100000 in
theorem k_ab:cFunc Tryz.prog a_ab Tryz.f3=some i_ab:=y9
theorem tbl_ok:Entries Tryz.prog tbl:=
 .cons (.of Tryz.func76 y9 k_fc) <|
 .cons (.of Tryz.func36 y9 k_fe) <|
 .cons (.of Tryz.func14 y9 k_eu) <|
 .cons (.of Tryz.func34 y9 k_b0) <|
 .cons (.of Tryz.func111 y9 k_ew) <|
 .cons (.of Tryz.func72 y9 k_br) <|
 .cons (.of Tryz.func71 y9 k_dy) <|
 .cons (.of Tryz.func73 y9 k_ce) <|
 .cons (.of Tryz.func35 y9 k_ae) <|
 .cons (.of Tryz.func13 y9 k_a8) <|
 .cons (.of Tryz.func31 y9 k_ba) <|
 .cons (.of Tryz.func10 y9 k_du) <|
 .cons (.of Tryz.func11 y9 k_dx) <|
 .cons (.of Tryz.func102 y9 k_bv) <|
 .cons (.of Tryz.func101 y9 k_bl) <|
 .cons (.of Tryz.func100 y9 k_dt) <|
 .cons (.of Tryz.func128 y9 k_dm) <|
 .cons (.of Tryz.func112 y9 k_bt) <|
 .cons (.of Tryz.func113 y9 k_cx) <|
 .cons (.of Tryz.func127 y9 k_db) <|
 .cons (.of Tryz.func99 y9 k_am) <|
 .cons (.of Tryz.func66 y9 k_ah) <|
 .cons (.of Tryz.func98 y9 k_c5) <|
 .cons (.of Tryz.func126 y9 k_c6) <|
 .cons (.of Tryz.func97 y9 k_bu) <|
 .cons (.of Tryz.func65 y9 k_ac) <|
 .cons (.of Tryz.func64 y9 k_ao) <|
 .cons (.of Tryz.func96 y9 k_cw) <|
 .cons (.of Tryz.func63 y9 k_df) <|
 .cons (.of Tryz.func62 y9 k_cu) <|
 .cons (.of Tryz.func61 y9 k_bz) <|
 .cons (.of Tryz.func95 y9 k_dh) <|
 .cons (.of Tryz.func60 y9 k_di) <|
 .cons (.of Tryz.func59 y9 k_dq) <|
 .cons (.of Tryz.func58 y9 k_bg) <|
 .cons (.of Tryz.func30 y9 k_aa) <|
 .cons (.of Tryz.func29 y9 k_bb) <|
 .cons (.of Tryz.func28 y9 k_bw) <|
 .cons (.of Tryz.func94 y9 k_az) <|
 .cons (.of Tryz.func57 y9 k_af) <|
 .cons (.of Tryz.func27 y9 k_aw) <|
 .cons (.of Tryz.func9 y9 k_ai) <|
 .cons (.of Tryz.func42 y9 k_ag) <|
 .cons (.of Tryz.func18 y9 k_au) <|
 .cons (.of Tryz.func6 y9 k_da) <|
 .cons (.of Tryz.func17 y9 k_av) <|
 .cons (.of Tryz.func5 y9 k_dj) <|
 .cons (.of Tryz.func93 y9 k_cc) <|
 .cons (.of Tryz.func92 y9 k_bo) <|
 .cons (.of Tryz.func125 y9 k_b9) <|
 .cons (.of Tryz.func91 y9 k_cl) <|
 .cons (.of Tryz.func124 y9 k_eh) <|
 .cons (.of Tryz.func123 y9 k_bn) <|
 .cons (.of Tryz.func122 y9 k_d8) <|
 .cons (.of Tryz.func90 y9 k_a6) <|
 .cons (.of Tryz.func121 y9 k_cy) <|
 .cons (.of Tryz.func120 y9 k_cz) <|
 .cons (.of Tryz.func89 y9 k_dv) <|
 .cons (.of Tryz.func55 y9 k_ax) <|
 .cons (.of Tryz.func56 y9 k_ez) <|
 .cons (.of Tryz.func88 y9 k_cf) <|
 .cons (.of Tryz.func138 y9 k_dz) <|
 .cons (.of Tryz.func150 y9 k_ed) <|
 .cons (.of Tryz.func137 y9 k_ct) <|
 .cons (.of Tryz.func136 y9 k_em) <|
 .cons (.of Tryz.func147 y9 k_ck) <|
 .cons (.of Tryz.func135 y9 k_ej) <|
 .cons (.of Tryz.func156 y9 k_cq) <|
 .cons (.of Tryz.func146 y9 k_b6) <|
 .cons (.of Tryz.func134 y9 k_dc) <|
 .cons (.of Tryz.func119 y9 k_ay) <|
 .cons (.of Tryz.func87 y9 k_bm) <|
 .cons (.of Tryz.func86 y9 k_bk) <|
 .cons (.of Tryz.func84 y9 k_cr) <|
 .cons (.of Tryz.func85 y9 k_dl) <|
 .cons (.of Tryz.func83 y9 k_co) <|
 .cons (.of Tryz.func133 y9 k_e9) <|
 .cons (.of Tryz.func117 y9 k_fa) <|
 .cons (.of Tryz.func82 y9 k_de) <|
 .cons (.of Tryz.func54 y9 k_aj) <|
 .cons (.of Tryz.func25 y9 k_ak) <|
 .cons (.of Tryz.func24 y9 k_en) <|
 .cons (.of Tryz.func23 y9 k_dn) <|
 .cons (.of Tryz.func8 y9 k_al) <|
 .cons (.of Tryz.func131 y9 k_ef) <|
 .cons (.of Tryz.func129 y9 k_fi) <|
 .cons (.of Tryz.func53 y9 k_bc) <|
 .cons (.of Tryz.func33 y9 k_b7) <|
 .cons (.of Tryz.func12 y9 k_bp) <|
 .cons (.of Tryz.func45 y9 k_bq) <|
 .cons (.of Tryz.func21 y9 k_a7) <|
 .cons (.of Tryz.func79 y9 k_ap) <|
 .cons (.of Tryz.func43 y9 k_bh) <|
 .cons (.of Tryz.func19 y9 k_d7) <|
 .cons (.of Tryz.func7 y9 k_dg) <|
 .cons (.of Tryz.func52 y9 k_dr) <|
 .cons (.of Tryz.func39 y9 k_ey) <|
 .cons (.of Tryz.func80 y9 k_cd) <|
 .cons (.of Tryz.func47 y9 k_aq) <|
 .cons (.of Tryz.func22 y9 k_b5) <|
 .cons (.of Tryz.func32 y9 k_dk) <|
 .cons (.of Tryz.func68 y9 k_cm) <|
 .cons (.of Tryz.func50 y9 k_bx) <|
 .cons (.of Tryz.func67 y9 k_eo) <|
 .cons (.of Tryz.func69 y9 k_dw) <|
 .cons (.of Tryz.func3 y9 k_ab) <|
 .nil
theorem tab_ok:ATab Tryz.prog tab:=
 .cons Tryz.func75 y9 <|
 .cons Tryz.func74 y9 <|
 .cons Tryz.func110 y9 <|
 .cons Tryz.func109 y9 <|
 .cons Tryz.func108 y9 <|
 .cons Tryz.func107 y9 <|
 .cons Tryz.func106 y9 <|
 .cons Tryz.func105 y9 <|
 .cons Tryz.func104 y9 <|
 .cons Tryz.func103 y9 <|
 .cons Tryz.func70 y9 <|
 .cons Tryz.func16 y9 <|
 .cons Tryz.func38 y9 <|
 .cons Tryz.func78 y9 <|
 .cons Tryz.func114 y9 <|
 .cons Tryz.func77 y9 <|
 .cons Tryz.func37 y9 <|
 .cons Tryz.func15 y9 <|
 .cons Tryz.func4 y9 <|
 .nil
def exts:FuncId→Option (List D→Option V):=fun f=>if f=n_fy then some (tw) else if f=n_ft then some (ph) else if f=n_fz then some (xTrim) else if f=n_fo then some (ra) else if f=n_gc then some (q9) else if f=n_d6 then some (xSeq n_fb) else none
def iters:FuncId→Option (List D→Option (List (List D))):=fun f=>if f=n_fb then some (vc 5) else none
def chgs:FuncId→Option (List (Nat×Nat)):=fun f=>if f=n_cf then some ([(0,9)]) else none
noncomputable def cfg:Cfg:={funcs:=fnsOf Tryz.prog tbl tab,meth:=fun _ _=>none,glob:=fun _=>none,gobj:=fun _=>none,intTy:=fun _=>false,clip:=fun f=>clips.contains f,ext:=exts,iter:=iters,chg:=chgs}
noncomputable abbrev X_eu:Kx:=fx cfg 0 [.t 4]
theorem e_eu:Oe cfg n_eu 2 [.t 4] c_eu:=fun _ _ _=>ac (fn:=i_eu) rfl rfl _ _ _
theorem o_eu (x0 x1:D):Of X_eu n_eu [.d x0,.d x1] c_eu:=e_eu 0 _ _ rfl rfl
noncomputable abbrev X_b0:Kx:=fx cfg 0 [.t 6]
theorem e_b0:Oe cfg n_b0 3 [.t 6] c_b0:=fun _ _ _=>ac (fn:=i_b0) rfl rfl _ _ _
theorem o_b0 (x0 x1 x2:D):Of X_b0 n_b0 [.d x0,.d x1,.d x2] c_b0:=e_b0 0 _ _ rfl rfl
noncomputable abbrev X_br:Kx:=fx cfg 0 [.t 4]
theorem e_br:Oe cfg n_br 2 [.t 4] c_br:=fun _ _ _=>ac (fn:=i_br) rfl rfl _ _ _
theorem o_br (x0 x1:D):Of X_br n_br [.d x0,.d x1] c_br:=e_br 0 _ _ rfl rfl
noncomputable abbrev X_dy:Kx:=fx cfg 0 [.t 2]
theorem e_dy:Oe cfg n_dy 1 [.t 2] c_dy:=fun _ _ _=>ac (fn:=i_dy) rfl rfl _ _ _
theorem o_dy (x0:D):Of X_dy n_dy [.d x0] c_dy:=e_dy 0 _ _ rfl rfl
noncomputable abbrev X_ce:Kx:=fx cfg 0 [.t 6]
theorem e_ce:Oe cfg n_ce 3 [.t 6] c_ce:=fun _ _ _=>ac (fn:=i_ce) rfl rfl _ _ _
theorem o_ce (x0 x1 x2:D):Of X_ce n_ce [.d x0,.d x1,.d x2] c_ce:=e_ce 0 _ _ rfl rfl
noncomputable abbrev X_ae:Kx:=fx cfg 0 [.t 4]
theorem e_ae:Oe cfg n_ae 2 [.t 4] c_ae:=fun _ _ _=>ac (fn:=i_ae) rfl rfl _ _ _
theorem o_ae (x0 x1:D):Of X_ae n_ae [.d x0,.d x1] c_ae:=e_ae 0 _ _ rfl rfl
noncomputable abbrev X_a8:Kx:=fx cfg 0 [.t 4]
theorem e_a8:Oe cfg n_a8 2 [.t 4] c_a8:=fun _ _ _=>ac (fn:=i_a8) rfl rfl _ _ _
theorem o_a8 (x0 x1:D):Of X_a8 n_a8 [.d x0,.d x1] c_a8:=e_a8 0 _ _ rfl rfl
noncomputable abbrev X_ba:Kx:=fx cfg 0 [.t 4]
theorem e_ba:Oe cfg n_ba 2 [.t 4] c_ba:=fun _ _ _=>ac (fn:=i_ba) rfl rfl _ _ _
theorem o_ba (x0 x1:D):Of X_ba n_ba [.d x0,.d x1] c_ba:=e_ba 0 _ _ rfl rfl
noncomputable abbrev X_du:Kx:=fx cfg 0 [.t 4]
theorem e_du:Oe cfg n_du 2 [.t 4] c_du:=fun _ _ _=>ac (fn:=i_du) rfl rfl _ _ _
theorem o_du (x0 x1:D):Of X_du n_du [.d x0,.d x1] c_du:=e_du 0 _ _ rfl rfl
noncomputable abbrev X_dx:Kx:=fx cfg 0 [.cell 2 (some 15)]
theorem e_dx:Oe cfg n_dx 1 [.cell 2 (some 15)] c_dx:=fun _ _ _=>ac (fn:=i_dx) rfl rfl _ _ _
theorem o_dx (x0:D):Of X_dx n_dx [.d x0] c_dx:=e_dx 0 _ _ rfl rfl
noncomputable abbrev X_bv:Kx:=fx cfg 0 [.cell 6 (some 6)]
theorem e_bv:Oe cfg n_bv 3 [.cell 6 (some 6)] c_bv:=fun _ _ _=>ac (fn:=i_bv) rfl rfl _ _ _
theorem o_bv (x0 x1 x2:D):Of X_bv n_bv [.d x0,.d x1,.d x2] c_bv:=e_bv 0 _ _ rfl rfl
noncomputable abbrev X_bl:Kx:=fx cfg 0 [.t 2]
theorem e_bl:Oe cfg n_bl 1 [.t 2] c_bl:=fun _ _ _=>ac (fn:=i_bl) rfl rfl _ _ _
theorem o_bl (x0:D):Of X_bl n_bl [.d x0] c_bl:=e_bl 0 _ _ rfl rfl
noncomputable abbrev X_dt:Kx:=fx cfg 0 [.t 2]
theorem e_dt:Oe cfg n_dt 1 [.t 2] c_dt:=fun _ _ _=>ac (fn:=i_dt) rfl rfl _ _ _
theorem o_dt (x0:D):Of X_dt n_dt [.d x0] c_dt:=e_dt 0 _ _ rfl rfl
noncomputable abbrev X_dm:Kx:=fx cfg 0 [.t 4]
theorem e_dm:Oe cfg n_dm 2 [.t 4] c_dm:=fun _ _ _=>ac (fn:=i_dm) rfl rfl _ _ _
theorem o_dm (x0 x1:D):Of X_dm n_dm [.d x0,.d x1] c_dm:=e_dm 0 _ _ rfl rfl
noncomputable abbrev X_bt:Kx:=fx cfg 0 [.t 2]
theorem e_bt:Oe cfg n_bt 1 [.t 2] c_bt:=fun _ _ _=>ac (fn:=i_bt) rfl rfl _ _ _
theorem o_bt (x0:D):Of X_bt n_bt [.d x0] c_bt:=e_bt 0 _ _ rfl rfl
noncomputable abbrev X_cx:Kx:=fx cfg 0 [.t 2]
theorem e_cx:Oe cfg n_cx 1 [.t 2] c_cx:=fun _ _ _=>ac (fn:=i_cx) rfl rfl _ _ _
theorem o_cx (x0:D):Of X_cx n_cx [.d x0] c_cx:=e_cx 0 _ _ rfl rfl
noncomputable abbrev X_db:Kx:=fx cfg 0 [.t 2]
theorem e_db:Oe cfg n_db 1 [.t 2] c_db:=fun _ _ _=>ac (fn:=i_db) rfl rfl _ _ _
theorem o_db (x0:D):Of X_db n_db [.d x0] c_db:=e_db 0 _ _ rfl rfl
noncomputable abbrev X_am:Kx:=fx cfg 0 [.t 6]
theorem e_am:Oe cfg n_am 3 [.t 6] c_am:=fun _ _ _=>ac (fn:=i_am) rfl rfl _ _ _
theorem o_am (x0 x1 x2:D):Of X_am n_am [.d x0,.d x1,.d x2] c_am:=e_am 0 _ _ rfl rfl
noncomputable abbrev X_ah:Kx:=fx cfg 0 [.t 4]
theorem e_ah:Oe cfg n_ah 2 [.t 4] c_ah:=fun _ _ _=>ac (fn:=i_ah) rfl rfl _ _ _
theorem o_ah (x0 x1:D):Of X_ah n_ah [.d x0,.d x1] c_ah:=e_ah 0 _ _ rfl rfl
noncomputable abbrev X_c5:Kx:=fx cfg 0 [.t 4,.t 5]
theorem e_c5:Oe cfg n_c5 2 [.t 4,.t 5] c_c5:=fun _ _ _=>ac (fn:=i_c5) rfl rfl _ _ _
theorem o_c5 (x0 x1:D):Of X_c5 n_c5 [.d x0,.d x1] c_c5:=e_c5 0 _ _ rfl rfl
noncomputable abbrev X_c6:Kx:=fx cfg 0 [.t 2]
theorem e_c6:Oe cfg n_c6 1 [.t 2] c_c6:=fun _ _ _=>ac (fn:=i_c6) rfl rfl _ _ _
theorem o_c6 (x0:D):Of X_c6 n_c6 [.d x0] c_c6:=e_c6 0 _ _ rfl rfl
noncomputable abbrev X_bu:Kx:=fx cfg 0 [.t 4,.t 5]
theorem e_bu:Oe cfg n_bu 2 [.t 4,.t 5] c_bu:=fun _ _ _=>ac (fn:=i_bu) rfl rfl _ _ _
theorem o_bu (x0 x1:D):Of X_bu n_bu [.d x0,.d x1] c_bu:=e_bu 0 _ _ rfl rfl
noncomputable abbrev X_ac:Kx:=fx cfg 0 [.t 4,.t 5]
theorem e_ac:Oe cfg n_ac 2 [.t 4,.t 5] c_ac:=fun _ _ _=>ac (fn:=i_ac) rfl rfl _ _ _
theorem o_ac (x0 x1:D):Of X_ac n_ac [.d x0,.d x1] c_ac:=e_ac 0 _ _ rfl rfl
noncomputable abbrev X_ao:Kx:=fx cfg 0 [.t 4,.t 5]
theorem e_ao:Oe cfg n_ao 2 [.t 4,.t 5] c_ao:=fun _ _ _=>ac (fn:=i_ao) rfl rfl _ _ _
theorem o_ao (x0 x1:D):Of X_ao n_ao [.d x0,.d x1] c_ao:=e_ao 0 _ _ rfl rfl
noncomputable abbrev X_cw:Kx:=fx cfg 0 [.t 2]
theorem e_cw:Oe cfg n_cw 1 [.t 2] c_cw:=fun _ _ _=>ac (fn:=i_cw) rfl rfl _ _ _
theorem o_cw (x0:D):Of X_cw n_cw [.d x0] c_cw:=e_cw 0 _ _ rfl rfl
noncomputable abbrev X_df:Kx:=fx cfg 0 [.t 4,.t 5]
theorem e_df:Oe cfg n_df 2 [.t 4,.t 5] c_df:=fun _ _ _=>ac (fn:=i_df) rfl rfl _ _ _
theorem o_df (x0 x1:D):Of X_df n_df [.d x0,.d x1] c_df:=e_df 0 _ _ rfl rfl
noncomputable abbrev X_cu:Kx:=fx cfg 0 [.t 2,.t 3,.t 4,.t 5]
theorem e_cu:Oe cfg n_cu 1 [.t 2,.t 3,.t 4,.t 5] c_cu:=fun _ _ _=>ac (fn:=i_cu) rfl rfl _ _ _
theorem o_cu (x0:D):Of X_cu n_cu [.d x0] c_cu:=e_cu 0 _ _ rfl rfl
noncomputable abbrev X_bz:Kx:=fx cfg 0 [.t 4,.t 5,.t 6]
theorem e_bz:Oe cfg n_bz 2 [.t 4,.t 5,.t 6] c_bz:=fun _ _ _=>ac (fn:=i_bz) rfl rfl _ _ _
theorem o_bz (x0 x1:D):Of X_bz n_bz [.d x0,.d x1] c_bz:=e_bz 0 _ _ rfl rfl
noncomputable abbrev X_dh:Kx:=fx cfg 0 [.t 2]
theorem e_dh:Oe cfg n_dh 1 [.t 2] c_dh:=fun _ _ _=>ac (fn:=i_dh) rfl rfl _ _ _
theorem o_dh (x0:D):Of X_dh n_dh [.d x0] c_dh:=e_dh 0 _ _ rfl rfl
noncomputable abbrev X_di:Kx:=fx cfg 0 [.t 2]
theorem e_di:Oe cfg n_di 1 [.t 2] c_di:=fun _ _ _=>ac (fn:=i_di) rfl rfl _ _ _
theorem o_di (x0:D):Of X_di n_di [.d x0] c_di:=e_di 0 _ _ rfl rfl
noncomputable abbrev X_dq:Kx:=fx cfg 0 [.t 2]
theorem e_dq:Oe cfg n_dq 1 [.t 2] c_dq:=fun _ _ _=>ac (fn:=i_dq) rfl rfl _ _ _
theorem o_dq (x0:D):Of X_dq n_dq [.d x0] c_dq:=e_dq 0 _ _ rfl rfl
noncomputable abbrev X_bg:Kx:=fx cfg 0 [.t 4,.t 5]
theorem e_bg:Oe cfg n_bg 2 [.t 4,.t 5] c_bg:=fun _ _ _=>ac (fn:=i_bg) rfl rfl _ _ _
theorem o_bg (x0 x1:D):Of X_bg n_bg [.d x0,.d x1] c_bg:=e_bg 0 _ _ rfl rfl
noncomputable abbrev X_aa:Kx:=fx cfg 0 [.cell 4 (some 15),.t 5]
theorem e_aa:Oe cfg n_aa 2 [.cell 4 (some 15),.t 5] c_aa:=fun _ _ _=>ac (fn:=i_aa) rfl rfl _ _ _
theorem o_aa (x0 x1:D):Of X_aa n_aa [.d x0,.d x1] c_aa:=e_aa 0 _ _ rfl rfl
noncomputable abbrev X_bb:Kx:=fx cfg 0 [.t 4,.t 5]
theorem e_bb:Oe cfg n_bb 2 [.t 4,.t 5] c_bb:=fun _ _ _=>ac (fn:=i_bb) rfl rfl _ _ _
theorem o_bb (x0 x1:D):Of X_bb n_bb [.d x0,.d x1] c_bb:=e_bb 0 _ _ rfl rfl
noncomputable abbrev X_bw:Kx:=fx cfg 0 [.t 4]
theorem e_bw:Oe cfg n_bw 2 [.t 4] c_bw:=fun _ _ _=>ac (fn:=i_bw) rfl rfl _ _ _
theorem o_bw (x0 x1:D):Of X_bw n_bw [.d x0,.d x1] c_bw:=e_bw 0 _ _ rfl rfl
noncomputable abbrev X_az:Kx:=fx cfg 0 [.t 4,.t 5,.t 6]
theorem e_az:Oe cfg n_az 2 [.t 4,.t 5,.t 6] c_az:=fun _ _ _=>ac (fn:=i_az) rfl rfl _ _ _
theorem o_az (x0 x1:D):Of X_az n_az [.d x0,.d x1] c_az:=e_az 0 _ _ rfl rfl
noncomputable abbrev X_af:Kx:=fx cfg 0 [.cell 4 (some 5),.t 5,.t 6]
theorem e_af:Oe cfg n_af 2 [.cell 4 (some 5),.t 5,.t 6] c_af:=fun _ _ _=>ac (fn:=i_af) rfl rfl _ _ _
theorem o_af (x0 x1:D):Of X_af n_af [.d x0,.d x1] c_af:=e_af 0 _ _ rfl rfl
noncomputable abbrev X_aw:Kx:=fx cfg 0 [.t 2,.t 3]
theorem e_aw:Oe cfg n_aw 1 [.t 2,.t 3] c_aw:=fun _ _ _=>ac (fn:=i_aw) rfl rfl _ _ _
theorem o_aw (x0:D):Of X_aw n_aw [.d x0] c_aw:=e_aw 0 _ _ rfl rfl
noncomputable abbrev X_ai:Kx:=fx cfg 0 [.t 4,.t 5]
theorem e_ai:Oe cfg n_ai 2 [.t 4,.t 5] c_ai:=fun _ _ _=>ac (fn:=i_ai) rfl rfl _ _ _
theorem o_ai (x0 x1:D):Of X_ai n_ai [.d x0,.d x1] c_ai:=e_ai 0 _ _ rfl rfl
noncomputable abbrev X_ag:Kx:=fx cfg 0 [.t 2]
theorem e_ag:Oe cfg n_ag 1 [.t 2] c_ag:=fun _ _ _=>ac (fn:=i_ag) rfl rfl _ _ _
theorem o_ag (x0:D):Of X_ag n_ag [.d x0] c_ag:=e_ag 0 _ _ rfl rfl
noncomputable abbrev X_au:Kx:=fx cfg 0 [.t 6,.t 7]
theorem e_au:Oe cfg n_au 3 [.t 6,.t 7] c_au:=fun _ _ _=>ac (fn:=i_au) rfl rfl _ _ _
theorem o_au (x0 x1 x2:D):Of X_au n_au [.d x0,.d x1,.d x2] c_au:=e_au 0 _ _ rfl rfl
noncomputable abbrev X_da:Kx:=fx cfg 0 [.t 2]
theorem e_da:Oe cfg n_da 1 [.t 2] c_da:=fun _ _ _=>ac (fn:=i_da) rfl rfl _ _ _
theorem o_da (x0:D):Of X_da n_da [.d x0] c_da:=e_da 0 _ _ rfl rfl
noncomputable abbrev X_av:Kx:=fx cfg 0 [.t 4]
theorem e_av:Oe cfg n_av 2 [.t 4] c_av:=fun _ _ _=>ac (fn:=i_av) rfl rfl _ _ _
theorem o_av (x0 x1:D):Of X_av n_av [.d x0,.d x1] c_av:=e_av 0 _ _ rfl rfl
noncomputable abbrev X_dj:Kx:=fx cfg 0 [.t 2]
theorem e_dj:Oe cfg n_dj 1 [.t 2] c_dj:=fun _ _ _=>ac (fn:=i_dj) rfl rfl _ _ _
theorem o_dj (x0:D):Of X_dj n_dj [.d x0] c_dj:=e_dj 0 _ _ rfl rfl
noncomputable abbrev X_cc:Kx:=fx cfg 0 [.cell 6 (some 6),.t 7]
theorem e_cc:Oe cfg n_cc 3 [.cell 6 (some 6),.t 7] c_cc:=fun _ _ _=>ac (fn:=i_cc) rfl rfl _ _ _
theorem o_cc (x0 x1 x2:D):Of X_cc n_cc [.d x0,.d x1,.d x2] c_cc:=e_cc 0 _ _ rfl rfl
noncomputable abbrev X_bo:Kx:=fx cfg 0 [.t 4]
theorem e_bo:Oe cfg n_bo 2 [.t 4] c_bo:=fun _ _ _=>ac (fn:=i_bo) rfl rfl _ _ _
theorem o_bo (x0 x1:D):Of X_bo n_bo [.d x0,.d x1] c_bo:=e_bo 0 _ _ rfl rfl
noncomputable abbrev X_b9:Kx:=fx cfg 0 [.t 2]
theorem e_b9:Oe cfg n_b9 1 [.t 2] c_b9:=fun _ _ _=>ac (fn:=i_b9) rfl rfl _ _ _
theorem o_b9 (x0:D):Of X_b9 n_b9 [.d x0] c_b9:=e_b9 0 _ _ rfl rfl
noncomputable abbrev X_cl:Kx:=fx cfg 0 [.t 4]
theorem e_cl:Oe cfg n_cl 2 [.t 4] c_cl:=fun _ _ _=>ac (fn:=i_cl) rfl rfl _ _ _
theorem o_cl (x0 x1:D):Of X_cl n_cl [.d x0,.d x1] c_cl:=e_cl 0 _ _ rfl rfl
noncomputable abbrev X_eh:Kx:=fx cfg 0 [.t 4]
theorem e_eh:Oe cfg n_eh 2 [.t 4] c_eh:=fun _ _ _=>ac (fn:=i_eh) rfl rfl _ _ _
theorem o_eh (x0 x1:D):Of X_eh n_eh [.d x0,.d x1] c_eh:=e_eh 0 _ _ rfl rfl
noncomputable abbrev X_bn:Kx:=fx cfg 0 [.t 2]
theorem e_bn:Oe cfg n_bn 1 [.t 2] c_bn:=fun _ _ _=>ac (fn:=i_bn) rfl rfl _ _ _
theorem o_bn (x0:D):Of X_bn n_bn [.d x0] c_bn:=e_bn 0 _ _ rfl rfl
noncomputable abbrev X_d8:Kx:=fx cfg 0 [.t 4]
theorem e_d8:Oe cfg n_d8 2 [.t 4] c_d8:=fun _ _ _=>ac (fn:=i_d8) rfl rfl _ _ _
theorem o_d8 (x0 x1:D):Of X_d8 n_d8 [.d x0,.d x1] c_d8:=e_d8 0 _ _ rfl rfl
noncomputable abbrev X_a6:Kx:=fx cfg 0 [.t 4]
theorem e_a6:Oe cfg n_a6 2 [.t 4] c_a6:=fun _ _ _=>ac (fn:=i_a6) rfl rfl _ _ _
theorem o_a6 (x0 x1:D):Of X_a6 n_a6 [.d x0,.d x1] c_a6:=e_a6 0 _ _ rfl rfl
noncomputable abbrev X_cy:Kx:=fx cfg 0 [.t 2]
theorem e_cy:Oe cfg n_cy 1 [.t 2] c_cy:=fun _ _ _=>ac (fn:=i_cy) rfl rfl _ _ _
theorem o_cy (x0:D):Of X_cy n_cy [.d x0] c_cy:=e_cy 0 _ _ rfl rfl
noncomputable abbrev X_cz:Kx:=fx cfg 0 [.t 2]
theorem e_cz:Oe cfg n_cz 1 [.t 2] c_cz:=fun _ _ _=>ac (fn:=i_cz) rfl rfl _ _ _
theorem o_cz (x0:D):Of X_cz n_cz [.d x0] c_cz:=e_cz 0 _ _ rfl rfl
noncomputable abbrev X_dv:Kx:=fx cfg 0 [.t 4]
theorem e_dv:Oe cfg n_dv 2 [.t 4] c_dv:=fun _ _ _=>ac (fn:=i_dv) rfl rfl _ _ _
theorem o_dv (x0 x1:D):Of X_dv n_dv [.d x0,.d x1] c_dv:=e_dv 0 _ _ rfl rfl
noncomputable abbrev X_ax:Kx:=fx cfg 0 [.t 4]
theorem e_ax:Oe cfg n_ax 2 [.t 4] c_ax:=fun _ _ _=>ac (fn:=i_ax) rfl rfl _ _ _
theorem o_ax (x0 x1:D):Of X_ax n_ax [.d x0,.d x1] c_ax:=e_ax 0 _ _ rfl rfl
noncomputable abbrev X_ez:Kx:=fx cfg 0 [.cell 2 (some 6)]
theorem e_ez:Oe cfg n_ez 1 [.cell 2 (some 6)] c_ez:=fun _ _ _=>ac (fn:=i_ez) rfl rfl _ _ _
theorem o_ez (x0:D):Of X_ez n_ez [.d x0] c_ez:=e_ez 0 _ _ rfl rfl
noncomputable abbrev X_cf:Kx:=fx cfg 0 [.t 6]
theorem e_cf:Oe cfg n_cf 3 [.t 6] c_cf:=fun _ _ _=>ac (fn:=i_cf) rfl rfl _ _ _
noncomputable abbrev X_dz:Kx:=fx cfg 0 [.t 4,.t 5]
theorem e_dz:Oe cfg n_dz 2 [.t 4,.t 5] c_dz:=fun _ _ _=>ac (fn:=i_dz) rfl rfl _ _ _
theorem o_dz (x0 x1:D):Of X_dz n_dz [.d x0,.d x1] c_dz:=e_dz 0 _ _ rfl rfl
noncomputable abbrev X_ed:Kx:=fx cfg 0 [.t 2]
theorem e_ed:Oe cfg n_ed 1 [.t 2] c_ed:=fun _ _ _=>ac (fn:=i_ed) rfl rfl _ _ _
theorem o_ed (x0:D):Of X_ed n_ed [.d x0] c_ed:=e_ed 0 _ _ rfl rfl
noncomputable abbrev X_ct:Kx:=fx cfg 0 [.t 4,.t 5]
theorem e_ct:Oe cfg n_ct 2 [.t 4,.t 5] c_ct:=fun _ _ _=>ac (fn:=i_ct) rfl rfl _ _ _
theorem o_ct (x0 x1:D):Of X_ct n_ct [.d x0,.d x1] c_ct:=e_ct 0 _ _ rfl rfl
noncomputable abbrev X_em:Kx:=fx cfg 0 [.t 2]
theorem e_em:Oe cfg n_em 1 [.t 2] c_em:=fun _ _ _=>ac (fn:=i_em) rfl rfl _ _ _
theorem o_em (x0:D):Of X_em n_em [.d x0] c_em:=e_em 0 _ _ rfl rfl
noncomputable abbrev X_ck:Kx:=fx cfg 0 [.t 4,.t 5,.t 6]
theorem e_ck:Oe cfg n_ck 2 [.t 4,.t 5,.t 6] c_ck:=fun _ _ _=>ac (fn:=i_ck) rfl rfl _ _ _
theorem o_ck (x0 x1:D):Of X_ck n_ck [.d x0,.d x1] c_ck:=e_ck 0 _ _ rfl rfl
noncomputable abbrev X_ej:Kx:=fx cfg 0 [.t 4,.t 5,.t 6]
theorem e_ej:Oe cfg n_ej 2 [.t 4,.t 5,.t 6] c_ej:=fun _ _ _=>ac (fn:=i_ej) rfl rfl _ _ _
theorem o_ej (x0 x1:D):Of X_ej n_ej [.d x0,.d x1] c_ej:=e_ej 0 _ _ rfl rfl
noncomputable abbrev X_cq:Kx:=fx cfg 0 [.t 4]
theorem e_cq:Oe cfg n_cq 2 [.t 4] c_cq:=fun _ _ _=>ac (fn:=i_cq) rfl rfl _ _ _
theorem o_cq (x0 x1:D):Of X_cq n_cq [.d x0,.d x1] c_cq:=e_cq 0 _ _ rfl rfl
noncomputable abbrev X_b6:Kx:=fx cfg 0 [.t 4,.t 5]
theorem e_b6:Oe cfg n_b6 2 [.t 4,.t 5] c_b6:=fun _ _ _=>ac (fn:=i_b6) rfl rfl _ _ _
theorem o_b6 (x0 x1:D):Of X_b6 n_b6 [.d x0,.d x1] c_b6:=e_b6 0 _ _ rfl rfl
noncomputable abbrev X_dc:Kx:=fx cfg 0 [.t 4,.t 5]
theorem e_dc:Oe cfg n_dc 2 [.t 4,.t 5] c_dc:=fun _ _ _=>ac (fn:=i_dc) rfl rfl _ _ _
theorem o_dc (x0 x1:D):Of X_dc n_dc [.d x0,.d x1] c_dc:=e_dc 0 _ _ rfl rfl
noncomputable abbrev X_ay:Kx:=fx cfg 0 [.t 4,.t 5]
theorem e_ay:Oe cfg n_ay 2 [.t 4,.t 5] c_ay:=fun _ _ _=>ac (fn:=i_ay) rfl rfl _ _ _
theorem o_ay (x0 x1:D):Of X_ay n_ay [.d x0,.d x1] c_ay:=e_ay 0 _ _ rfl rfl
noncomputable abbrev X_bm:Kx:=fx cfg 0 [.t 4,.t 5]
theorem e_bm:Oe cfg n_bm 2 [.t 4,.t 5] c_bm:=fun _ _ _=>ac (fn:=i_bm) rfl rfl _ _ _
noncomputable abbrev X_bk:Kx:=fx cfg 0 [.t 4,.t 5]
theorem e_bk:Oe cfg n_bk 2 [.t 4,.t 5] c_bk:=fun _ _ _=>ac (fn:=i_bk) rfl rfl _ _ _
theorem o_bk (x0 x1:D):Of X_bk n_bk [.d x0,.d x1] c_bk:=e_bk 0 _ _ rfl rfl
noncomputable abbrev X_cr:Kx:=fx cfg 0 [.t 4,.t 5,.t 6]
theorem e_cr:Oe cfg n_cr 2 [.t 4,.t 5,.t 6] c_cr:=fun _ _ _=>ac (fn:=i_cr) rfl rfl _ _ _
noncomputable abbrev X_dl:Kx:=fx cfg 0 [.t 4,.t 5]
theorem e_dl:Oe cfg n_dl 2 [.t 4,.t 5] c_dl:=fun _ _ _=>ac (fn:=i_dl) rfl rfl _ _ _
noncomputable abbrev X_co:Kx:=fx cfg 0 [.t 4,.t 5,.t 6]
theorem e_co:Oe cfg n_co 2 [.t 4,.t 5,.t 6] c_co:=fun _ _ _=>ac (fn:=i_co) rfl rfl _ _ _
noncomputable abbrev X_e9:Kx:=fx cfg 0 [.t 2]
theorem e_e9:Oe cfg n_e9 1 [.t 2] c_e9:=fun _ _ _=>ac (fn:=i_e9) rfl rfl _ _ _
theorem o_e9 (x0:D):Of X_e9 n_e9 [.d x0] c_e9:=e_e9 0 _ _ rfl rfl
noncomputable abbrev X_fa:Kx:=fx cfg 0 [.t 4,.t 5]
theorem e_fa:Oe cfg n_fa 2 [.t 4,.t 5] c_fa:=fun _ _ _=>ac (fn:=i_fa) rfl rfl _ _ _
theorem o_fa (x0 x1:D):Of X_fa n_fa [.d x0,.d x1] c_fa:=e_fa 0 _ _ rfl rfl
noncomputable abbrev X_de:Kx:=fx cfg 0 [.t 4,.t 5]
theorem e_de:Oe cfg n_de 2 [.t 4,.t 5] c_de:=fun _ _ _=>ac (fn:=i_de) rfl rfl _ _ _
noncomputable abbrev X_aj:Kx:=fx cfg 0 [.t 4]
theorem e_aj:Oe cfg n_aj 2 [.t 4] c_aj:=fun _ _ _=>ac (fn:=i_aj) rfl rfl _ _ _
noncomputable abbrev X_ak:Kx:=fx cfg 0 [.cell 4 (some 15),.t 5]
theorem e_ak:Oe cfg n_ak 2 [.cell 4 (some 15),.t 5] c_ak:=fun _ _ _=>ac (fn:=i_ak) rfl rfl _ _ _
theorem o_ak (x0 x1:D):Of X_ak n_ak [.d x0,.d x1] c_ak:=e_ak 0 _ _ rfl rfl
noncomputable abbrev X_en:Kx:=fx cfg 0 [.t 4,.t 5]
theorem e_en:Oe cfg n_en 2 [.t 4,.t 5] c_en:=fun _ _ _=>ac (fn:=i_en) rfl rfl _ _ _
theorem o_en (x0 x1:D):Of X_en n_en [.d x0,.d x1] c_en:=e_en 0 _ _ rfl rfl
noncomputable abbrev X_dn:Kx:=fx cfg 0 [.t 4]
theorem e_dn:Oe cfg n_dn 2 [.t 4] c_dn:=fun _ _ _=>ac (fn:=i_dn) rfl rfl _ _ _
theorem o_dn (x0 x1:D):Of X_dn n_dn [.d x0,.d x1] c_dn:=e_dn 0 _ _ rfl rfl
noncomputable abbrev X_al:Kx:=fx cfg 0 [.t 4,.t 5]
theorem e_al:Oe cfg n_al 2 [.t 4,.t 5] c_al:=fun _ _ _=>ac (fn:=i_al) rfl rfl _ _ _
theorem o_al (x0 x1:D):Of X_al n_al [.d x0,.d x1] c_al:=e_al 0 _ _ rfl rfl
noncomputable abbrev X_ef:Kx:=fx cfg 0 [.t 2]
theorem e_ef:Oe cfg n_ef 1 [.t 2] c_ef:=fun _ _ _=>ac (fn:=i_ef) rfl rfl _ _ _
theorem o_ef (x0:D):Of X_ef n_ef [.d x0] c_ef:=e_ef 0 _ _ rfl rfl
noncomputable abbrev X_bc:Kx:=fx cfg 0 [.t 2]
theorem e_bc:Oe cfg n_bc 1 [.t 2] c_bc:=fun _ _ _=>ac (fn:=i_bc) rfl rfl _ _ _
theorem o_bc (x0:D):Of X_bc n_bc [.d x0] c_bc:=e_bc 0 _ _ rfl rfl
noncomputable abbrev X_b7:Kx:=fx cfg 0 [.t 4]
theorem e_b7:Oe cfg n_b7 2 [.t 4] c_b7:=fun _ _ _=>ac (fn:=i_b7) rfl rfl _ _ _
theorem o_b7 (x0 x1:D):Of X_b7 n_b7 [.d x0,.d x1] c_b7:=e_b7 0 _ _ rfl rfl
noncomputable abbrev X_bp:Kx:=fx cfg 0 [.t 4]
theorem e_bp:Oe cfg n_bp 2 [.t 4] c_bp:=fun _ _ _=>ac (fn:=i_bp) rfl rfl _ _ _
theorem o_bp (x0 x1:D):Of X_bp n_bp [.d x0,.d x1] c_bp:=e_bp 0 _ _ rfl rfl
noncomputable abbrev X_bq:Kx:=fx cfg 0 [.t 2]
theorem e_bq:Oe cfg n_bq 1 [.t 2] c_bq:=fun _ _ _=>ac (fn:=i_bq) rfl rfl _ _ _
theorem o_bq (x0:D):Of X_bq n_bq [.d x0] c_bq:=e_bq 0 _ _ rfl rfl
noncomputable abbrev X_a7:Kx:=fx cfg 0 [.t 8]
theorem e_a7:Oe cfg n_a7 4 [.t 8] c_a7:=fun _ _ _=>ac (fn:=i_a7) rfl rfl _ _ _
noncomputable abbrev X_ap:Kx:=fx cfg 0 [.t 2]
theorem e_ap:Oe cfg n_ap 1 [.t 2] c_ap:=fun _ _ _=>ac (fn:=i_ap) rfl rfl _ _ _
theorem o_ap (x0:D):Of X_ap n_ap [.d x0] c_ap:=e_ap 0 _ _ rfl rfl
noncomputable abbrev X_bh:Kx:=fx cfg 0 [.t 6]
theorem e_bh:Oe cfg n_bh 3 [.t 6] c_bh:=fun _ _ _=>ac (fn:=i_bh) rfl rfl _ _ _
noncomputable abbrev X_d7:Kx:=fx cfg 0 [.t 2]
theorem e_d7:Oe cfg n_d7 1 [.t 2] c_d7:=fun _ _ _=>ac (fn:=i_d7) rfl rfl _ _ _
theorem o_d7 (x0:D):Of X_d7 n_d7 [.d x0] c_d7:=e_d7 0 _ _ rfl rfl
noncomputable abbrev X_dg:Kx:=fx cfg 0 [.t 2]
theorem e_dg:Oe cfg n_dg 1 [.t 2] c_dg:=fun _ _ _=>ac (fn:=i_dg) rfl rfl _ _ _
theorem o_dg (x0:D):Of X_dg n_dg [.d x0] c_dg:=e_dg 0 _ _ rfl rfl
noncomputable abbrev X_dr:Kx:=fx cfg 0 [.cell 6 (some 5),.cell 7 none]
theorem e_dr:Oe cfg n_dr 3 [.cell 6 (some 5),.cell 7 none] c_dr:=fun _ _ _=>ac (fn:=i_dr) rfl rfl _ _ _
theorem o_dr (x0 x1 x2:D):Of X_dr n_dr [.d x0,.d x1,.d x2] c_dr:=e_dr 0 _ _ rfl rfl
noncomputable abbrev X_ey:Kx:=fx cfg 0 [.t 4,.t 5]
theorem e_ey:Oe cfg n_ey 2 [.t 4,.t 5] c_ey:=fun _ _ _=>ac (fn:=i_ey) rfl rfl _ _ _
theorem o_ey (x0 x1:D):Of X_ey n_ey [.d x0,.d x1] c_ey:=e_ey 0 _ _ rfl rfl
noncomputable abbrev X_cd:Kx:=fx cfg 0 [.t 4,.t 5,.t 6]
theorem e_cd:Oe cfg n_cd 2 [.t 4,.t 5,.t 6] c_cd:=fun _ _ _=>ac (fn:=i_cd) rfl rfl _ _ _
theorem o_cd (x0 x1:D):Of X_cd n_cd [.d x0,.d x1] c_cd:=e_cd 0 _ _ rfl rfl
noncomputable abbrev X_aq:Kx:=fx cfg 0 [.cell 4 (some 5),.t 5,.t 6]
theorem e_aq:Oe cfg n_aq 2 [.cell 4 (some 5),.t 5,.t 6] c_aq:=fun _ _ _=>ac (fn:=i_aq) rfl rfl _ _ _
theorem o_aq (x0 x1:D):Of X_aq n_aq [.d x0,.d x1] c_aq:=e_aq 0 _ _ rfl rfl
noncomputable abbrev X_b5:Kx:=fx cfg 0 [.t 2,.t 3]
theorem e_b5:Oe cfg n_b5 1 [.t 2,.t 3] c_b5:=fun _ _ _=>ac (fn:=i_b5) rfl rfl _ _ _
theorem o_b5 (x0:D):Of X_b5 n_b5 [.d x0] c_b5:=e_b5 0 _ _ rfl rfl
noncomputable abbrev X_dk:Kx:=fx cfg 0 [.t 6]
theorem e_dk:Oe cfg n_dk 3 [.t 6] c_dk:=fun _ _ _=>ac (fn:=i_dk) rfl rfl _ _ _
theorem o_dk (x0 x1 x2:D):Of X_dk n_dk [.d x0,.d x1,.d x2] c_dk:=e_dk 0 _ _ rfl rfl
noncomputable abbrev X_cm:Kx:=fx cfg 0 [.t 4]
theorem e_cm:Oe cfg n_cm 2 [.t 4] c_cm:=fun _ _ _=>ac (fn:=i_cm) rfl rfl _ _ _
theorem o_cm (x0 x1:D):Of X_cm n_cm [.d x0,.d x1] c_cm:=e_cm 0 _ _ rfl rfl
noncomputable abbrev X_bx:Kx:=fx cfg 0 [.t 2]
theorem e_bx:Oe cfg n_bx 1 [.t 2] c_bx:=fun _ _ _=>ac (fn:=i_bx) rfl rfl _ _ _
theorem o_bx (x0:D):Of X_bx n_bx [.d x0] c_bx:=e_bx 0 _ _ rfl rfl
noncomputable abbrev X_eo:Kx:=fx cfg 0 [.t 6,.t 7]
theorem e_eo:Oe cfg n_eo 3 [.t 6,.t 7] c_eo:=fun _ _ _=>ac (fn:=i_eo) rfl rfl _ _ _
theorem o_eo (x0 x1 x2:D):Of X_eo n_eo [.d x0,.d x1,.d x2] c_eo:=e_eo 0 _ _ rfl rfl
noncomputable abbrev X_dw:Kx:=fx cfg 0 [.t 6]
theorem e_dw:Oe cfg n_dw 3 [.t 6] c_dw:=fun _ _ _=>ac (fn:=i_dw) rfl rfl _ _ _
theorem o_dw (x0 x1 x2:D):Of X_dw n_dw [.d x0,.d x1,.d x2] c_dw:=e_dw 0 _ _ rfl rfl
noncomputable abbrev X_ab:Kx:=fx cfg 0 [.t 6]
theorem e_ab:Oe cfg n_ab 3 [.t 6] c_ab:=fun _ _ _=>ac (fn:=i_ab) rfl rfl _ _ _
theorem o_ab (x0 x1 x2:D):Of X_ab n_ab [.d x0,.d x1,.d x2] c_ab:=e_ab 0 _ _ rfl rfl
@[go_sem] theorem u_bm:Uc cfg n_bm:=uc rfl
@[go_sem] theorem u_aj:Uc cfg n_aj:=uc rfl
@[go_sem] theorem u_de:Uc cfg n_de:=uc rfl
@[go_sem] theorem u_cf:Uc cfg n_cf:=uc rfl
@[go_sem] theorem u_dl:Uc cfg n_dl:=uc rfl
@[go_sem] theorem u_gc:Uc cfg n_gc:=uc rfl
@[go_sem] theorem u_fc:Uc cfg n_fc:=uc rfl
@[go_sem] theorem u_bn:Uc cfg n_bn:=uc rfl
@[go_sem] theorem u_ay:Uc cfg n_ay:=uc rfl
@[go_sem] theorem u_em:Uc cfg n_em:=uc rfl
@[go_sem] theorem u_ef:Uc cfg n_ef:=uc rfl
@[go_sem] theorem u_b7:Uc cfg n_b7:=uc rfl
@[go_sem] theorem u_ak:Uc cfg n_ak:=uc rfl
@[go_sem] theorem u_gd:Uc cfg n_gd:=uc rfl
@[go_sem] theorem u_cr:Uc cfg n_cr:=uc rfl
@[go_sem] theorem u_co:Uc cfg n_co:=uc rfl
@[go_sem] theorem u_bc:Uc cfg n_bc:=uc rfl
@[go_sem] theorem u_ez:Uc cfg n_ez:=uc rfl
@[go_sem] theorem u_dj:Uc cfg n_dj:=uc rfl
@[go_sem] theorem u_av:Uc cfg n_av:=uc rfl
@[go_sem] theorem u_dx:Uc cfg n_dx:=uc rfl
@[go_sem] theorem u_ab:Uc cfg n_ab:=uc rfl
@[go_sem] theorem u_fu:Uc cfg n_fu:=uc rfl
@[go_sem] theorem u_db:Uc cfg n_db:=uc rfl
@[go_sem] theorem u_ac:Uc cfg n_ac:=uc rfl
@[go_sem] theorem u_fw:Uc cfg n_fw:=uc rfl
@[go_sem] theorem u_bt:Uc cfg n_bt:=uc rfl
@[go_sem] theorem u_cx:Uc cfg n_cx:=uc rfl
@[go_sem] theorem u_dm:Uc cfg n_dm:=uc rfl
@[go_sem] theorem u_da:Uc cfg n_da:=uc rfl
@[go_sem] theorem u_dt:Uc cfg n_dt:=uc rfl
@[go_sem] theorem u_au:Uc cfg n_au:=uc rfl
@[go_sem] theorem u_ag:Uc cfg n_ag:=uc rfl
@[go_sem] theorem u_ah:Uc cfg n_ah:=uc rfl
@[go_sem] theorem u_bv:Uc cfg n_bv:=uc rfl
@[go_sem] theorem u_am:Uc cfg n_am:=uc rfl
@[go_sem] theorem u_ba:Uc cfg n_ba:=uc rfl
@[go_sem] theorem u_bl:Uc cfg n_bl:=uc rfl
@[go_sem] theorem u_dh:Uc cfg n_dh:=uc rfl
@[go_sem] theorem u_du:Uc cfg n_du:=uc rfl
@[go_sem] theorem u_c5:Uc cfg n_c5:=uc rfl
@[go_sem] theorem u_bu:Uc cfg n_bu:=uc rfl
@[go_sem] theorem u_br:Uc cfg n_br:=uc rfl
@[go_sem] theorem u_az:Uc cfg n_az:=uc rfl
@[go_sem] theorem u_cw:Uc cfg n_cw:=uc rfl
@[go_sem] theorem u_ew:Uc cfg n_ew:=uc rfl
@[go_sem] theorem u_c6:Uc cfg n_c6:=uc rfl
@[go_sem] theorem u_ae:Uc cfg n_ae:=uc rfl
@[go_sem] theorem u_aa:Uc cfg n_aa:=uc rfl
@[go_sem] theorem u_bz:Uc cfg n_bz:=uc rfl
@[go_sem] theorem u_dq:Uc cfg n_dq:=uc rfl
@[go_sem] theorem u_cu:Uc cfg n_cu:=uc rfl
@[go_sem] theorem u_di:Uc cfg n_di:=uc rfl
@[go_sem] theorem u_a8:Uc cfg n_a8:=uc rfl
@[go_sem] theorem u_ai:Uc cfg n_ai:=uc rfl
@[go_sem] theorem u_bw:Uc cfg n_bw:=uc rfl
@[go_sem] theorem u_df:Uc cfg n_df:=uc rfl
@[go_sem] theorem u_aw:Uc cfg n_aw:=uc rfl
@[go_sem] theorem u_b0:Uc cfg n_b0:=uc rfl
@[go_sem] theorem u_fg:Uc cfg n_fg:=uc rfl
@[go_sem] theorem u_ce:Uc cfg n_ce:=uc rfl
@[go_sem] theorem u_bb:Uc cfg n_bb:=uc rfl
@[go_sem] theorem u_bg:Uc cfg n_bg:=uc rfl
@[go_sem] theorem u_ao:Uc cfg n_ao:=uc rfl
@[go_sem] theorem u_af:Uc cfg n_af:=uc rfl
@[go_sem] theorem u_dy:Uc cfg n_dy:=uc rfl
@[go_sem] theorem u_dz:Uc cfg n_dz:=uc rfl
@[go_sem] theorem u_ct:Uc cfg n_ct:=uc rfl
@[go_sem] theorem u_cm:Uc cfg n_cm:=uc rfl
@[go_sem] theorem u_cd:Uc cfg n_cd:=uc rfl
@[go_sem] theorem u_e9:Uc cfg n_e9:=uc rfl
@[go_sem] theorem u_fi:Uc cfg n_fi:=uc rfl
@[go_sem] theorem u_ed:Uc cfg n_ed:=uc rfl
@[go_sem] theorem u_dn:Uc cfg n_dn:=uc rfl
@[go_sem] theorem u_fa:Uc cfg n_fa:=uc rfl
@[go_sem] theorem u_b5:Uc cfg n_b5:=uc rfl
@[go_sem] theorem u_dk:Uc cfg n_dk:=uc rfl
@[go_sem] theorem u_dw:Uc cfg n_dw:=uc rfl
@[go_sem] theorem u_en:Uc cfg n_en:=uc rfl
@[go_sem] theorem u_ey:Uc cfg n_ey:=uc rfl
@[go_sem] theorem u_bk:Uc cfg n_bk:=uc rfl
@[go_sem] theorem u_aq:Uc cfg n_aq:=uc rfl
@[go_sem] theorem u_eo:Uc cfg n_eo:=uc rfl
@[go_sem] theorem u_dr:Uc cfg n_dr:=uc rfl
@[go_sem] theorem u_bp:Uc cfg n_bp:=uc rfl
@[go_sem] theorem u_al:Uc cfg n_al:=uc rfl
@[go_sem] theorem u_d6:Uc cfg n_d6:=uc rfl
@[go_sem] theorem u_fv:Uk cfg n_fv:=uk rfl
@[go_sem] theorem u_fh:Uk cfg n_fh:=uk rfl
@[go_sem] theorem u_ga:Uk cfg n_ga:=uk rfl
@[go_sem] theorem u_fm:Uk cfg n_fm:=uk rfl
@[go_sem] theorem u_fj:Uk cfg n_fj:=uk rfl
@[go_sem] theorem u_fp:Uk cfg n_fp:=uk rfl
@[go_sem] theorem u_fk:Uk cfg n_fk:=uk rfl
@[go_sem] theorem u_fq:Uk cfg n_fq:=uk rfl
@[go_sem] theorem u_bx:Uc cfg n_bx:=uc rfl
@[go_sem] theorem u_bq:Uc cfg n_bq:=uc rfl
@[go_sem] theorem u_eh:Uc cfg n_eh:=uc rfl
@[go_sem] theorem u_eu:Uc cfg n_eu:=uc rfl
@[go_sem] theorem u_fe:Uc cfg n_fe:=uc rfl
@[go_sem] theorem u_ej:Uc cfg n_ej:=uc rfl
@[go_sem] theorem u_dc:Uc cfg n_dc:=uc rfl
@[go_sem] theorem u_ft:Uc cfg n_ft:=uc rfl
@[go_sem] theorem u_fz:Uc cfg n_fz:=uc rfl
@[go_sem] theorem u_ck:Uc cfg n_ck:=uc rfl
@[go_sem] theorem u_b6:Uc cfg n_b6:=uc rfl
@[go_sem] theorem u_cq:Uc cfg n_cq:=uc rfl
@[go_sem] theorem u_fo:Uc cfg n_fo:=uc rfl
@[go_sem] theorem u_d7:Uc cfg n_d7:=uc rfl
@[go_sem] theorem u_dg:Uc cfg n_dg:=uc rfl
@[go_sem] theorem u_cy:Uc cfg n_cy:=uc rfl
@[go_sem] theorem u_a7:Uc cfg n_a7:=uc rfl
@[go_sem] theorem u_fy:Uc cfg n_fy:=uc rfl
@[go_sem] theorem u_ap:Uc cfg n_ap:=uc rfl
@[go_sem] theorem u_bh:Uc cfg n_bh:=uc rfl
@[go_sem] theorem u_ax:Uc cfg n_ax:=uc rfl
@[go_sem] theorem u_b9:Uc cfg n_b9:=uc rfl
@[go_sem] theorem u_bo:Uc cfg n_bo:=uc rfl
@[go_sem] theorem u_cc:Uc cfg n_cc:=uc rfl
@[go_sem] theorem u_cl:Uc cfg n_cl:=uc rfl
@[go_sem] theorem u_dv:Uc cfg n_dv:=uc rfl
@[go_sem] theorem u_a6:Uc cfg n_a6:=uc rfl
@[go_sem] theorem u_cz:Uc cfg n_cz:=uc rfl
@[go_sem] theorem u_d8:Uc cfg n_d8:=uc rfl
@[go_sem] theorem cg_cf:cfg.chg n_cf=some ([(0,9)]):=rfl
def buj:=bzb r_em_0.eq_1 r_em_1.eq_1 r_ck_0.eq_1 r_ck_1.eq_1 r_ck_2.eq_1 r_ck_4.eq_1 r_ej_0.eq_1 r_ej_1.eq_1
def buk:=bzb r_cq_0.eq_1 r_cq_1.eq_1 r_b6_0.eq_1 r_b6_1.eq_1 r_b6_2.eq_1 r_b6_3.eq_1 r_dc_0.eq_1 r_dc_1.eq_1
def bul:=bzb r_ay_0.eq_1 r_ay_1.eq_1 r_ay_2.eq_1 r_ay_3.eq_1 r_ay_4.eq_1 r_ay_5.eq_1 r_ay_6.eq_1 r_ay_7.eq_1
def bum:=bzb r_ay_8.eq_1 r_ay_9.eq_1 apq.eq_1 app.eq_1 apo.eq_1 apn.eq_1 apm.eq_1 apl.eq_1
def bun:=bzb apk.eq_1 apj.eq_1 api.eq_1 aph.eq_1 apg.eq_1 apf.eq_1 r_bm_0.eq_1 r_bm_1.eq_1
def buo:=bzb r_bm_2.eq_1 r_bm_3.eq_1 r_bm_5.eq_1 r_bm_6.eq_1 r_bk_0.eq_1 r_bk_1.eq_1 r_bk_2.eq_1 bjp.eq_1
def bup:=bzb bjo.eq_1 bjn.eq_1 bjm.eq_1 bjl.eq_1 bjk.eq_1 bjj.eq_1 aox.eq_1 aow.eq_1
def buq:=bzb aov.eq_1 aou.eq_1 aot.eq_1 aos.eq_1 wo.eq_1 wl.eq_1 r_cr_0.eq_1 r_cr_1.eq_1
def bur:=bzb r_cr_2.eq_1 r_cr_3.eq_1 r_cr_4.eq_1 r_dl_0.eq_1 r_dl_1.eq_1 r_co_0.eq_1 r_co_1.eq_1 r_co_2.eq_1
def bus:=bzb r_co_3.eq_1 r_co_4.eq_1 r_e9_0.eq_1 r_e9_1.eq_1 r_fa_0.eq_1 r_fa_1.eq_1 r_fa_2.eq_1 r_de_0.eq_1
def buu:=bzb r_de_1.eq_1 r_aj_0.eq_1 r_aj_1.eq_1 r_aj_2.eq_1 r_aj_3.eq_1 r_aj_4.eq_1 r_aj_5.eq_1 r_aj_6.eq_1
def buv:=bzb r_aj_7.eq_1 r_aj_8.eq_1 r_aj_9.eq_1 bnr.eq_1 bnq.eq_1 bnp.eq_1 bno.eq_1 bnn.eq_1
def buw:=bzb bnm.eq_1 bnl.eq_1 bnk.eq_1 bnj.eq_1 bni.eq_1 bnh.eq_1 bng.eq_1 bnf.eq_1
def bux:=bzb bnd.eq_1 bnb.eq_1 r_ak_0.eq_1 r_ak_1.eq_1 r_ak_2.eq_1 r_ak_3.eq_1 r_ak_4.eq_1 r_ak_5.eq_1
def buy:=bzb r_ak_6.eq_1 r_ak_7.eq_1 r_ak_8.eq_1 r_ak_9.eq_1 bna.eq_1 bm9.eq_1 bm8.eq_1 bm7.eq_1
def buz:=bzb bm6.eq_1 bm5.eq_1 bm4.eq_1 bm3.eq_1 bm2.eq_1 bm1.eq_1 bmz.eq_1 bmy.eq_1
def bu0:=bzb bmx.eq_1 bmw.eq_1 r_en_0.eq_1 r_en_1.eq_1 r_en_2.eq_1 r_dn_0.eq_1 r_dn_1.eq_1 r_dn_2.eq_1
def bu1:=bzb bia.eq_1 bh9.eq_1 bh8.eq_1 bh7.eq_1 bh6.eq_1 bh5.eq_1 r_al_0.eq_1 r_al_1.eq_1
def bu2:=bzb r_al_2.eq_1 r_al_3.eq_1 r_al_4.eq_1 r_al_5.eq_1 r_al_7.eq_1 r_al_8.eq_1 bmv.eq_1 aq0.eq_1
def bu3:=bzb aqz.eq_1 aqy.eq_1 aqx.eq_1 aqw.eq_1 aqv.eq_1 aqu.eq_1 aqt.eq_1 aqs.eq_1
def bu4:=bzb aqr.eq_1 aqq.eq_1 aqp.eq_1 r4.eq_1 r_ef_0.eq_1 r_ef_1.eq_1 r_ef_2.eq_1 r_ef_3.eq_1
def bu5:=bzb r_bc_0.eq_1 r_bc_1.eq_1 r_bc_2.eq_1 r_bc_3.eq_1 r_bc_4.eq_1 r_bc_5.eq_1 r_bc_6.eq_1 r_bc_7.eq_1
def bu6:=bzb r_bc_8.eq_1 r_bc_9.eq_1 bj7.eq_1 bj6.eq_1 bj5.eq_1 bj4.eq_1 bj3.eq_1 bj2.eq_1
def bu7:=bzb bj1.eq_1 bj0.eq_1 bjz.eq_1 bjy.eq_1 bjx.eq_1 bjw.eq_1 r_b7_0.eq_1 r_b7_1.eq_1
def bu8:=bzb r_b7_2.eq_1 r_b7_3.eq_1 r_b7_5.eq_1 r_b7_6.eq_1 r_b7_7.eq_1 r_b7_8.eq_1 r_bp_0.eq_1 r_bp_1.eq_1
def bu9:=bzb r_bp_2.eq_1 bi8.eq_1 bi7.eq_1 bi6.eq_1 bi5.eq_1 bi4.eq_1 r_bq_0.eq_1 r_bq_1.eq_1
def bva:=bzb r_bq_3.eq_1 r_a7_0.eq_1 r_a7_1.eq_1 r_a7_3.eq_1 r_a7_4.eq_1 brn.eq_1 brm.eq_1 brl.eq_1
def bvb:=bzb brk.eq_1 brj.eq_1 r7.eq_1 r6.eq_1 r_ap_0.eq_1 r_ap_1.eq_1 r_ap_2.eq_1 r_ap_3.eq_1
def bvc:=bzb r_ap_4.eq_1 r_ap_5.eq_1 r_ap_6.eq_1 r_ap_7.eq_1 r_ap_8.eq_1 r_ap_9.eq_1 bmb.eq_1 bma.eq_1
def bvd:=bzb bl8.eq_1 bl7.eq_1 bl6.eq_1 bl5.eq_1 bl4.eq_1 bl3.eq_1 bl2.eq_1 bl1.eq_1
def bve:=bzb bl0.eq_1 blz.eq_1 bly.eq_1 blx.eq_1 r_bh_0.eq_1 r_bh_1.eq_1 r_bh_2.eq_1 r_bh_3.eq_1
def bvf:=bzb r_bh_4.eq_1 r_bh_5.eq_1 r_bh_6.eq_1 r_bh_7.eq_1 r_bh_8.eq_1 bjq.eq_1 ao3.eq_1 ao2.eq_1
def bvg:=bzb ao1.eq_1 ao0.eq_1 aoz.eq_1 aoy.eq_1 r_d7_0.eq_1 r_d7_1.eq_1 r_d7_2.eq_1 r_dg_0.eq_1
def bvh:=bzb r_dg_1.eq_1 r_dg_3.eq_1 r_dr_0.eq_1 r_dr_1.eq_1 bh4.eq_1 bh3.eq_1 bh2.eq_1 bh1.eq_1
def bvi:=bzb r_ey_0.eq_1 r_ey_1.eq_1 r_ey_2.eq_1 r_cd_0.eq_1 r_cd_1.eq_1 r_cd_3.eq_1 bil.eq_1 bik.eq_1
def bvj:=bzb bij.eq_1 bii.eq_1 bih.eq_1 big.eq_1 aoo.eq_1 aon.eq_1 aom.eq_1 r_aq_0.eq_1
def bvk:=bzb r_aq_1.eq_1 r_aq_2.eq_1 r_aq_3.eq_1 r_aq_4.eq_1 r_aq_5.eq_1 r_aq_6.eq_1 r_aq_7.eq_1 r_aq_8.eq_1
def bvl:=bzb r_aq_9.eq_1 blw.eq_1 blv.eq_1 blu.eq_1 blt.eq_1 bls.eq_1 blr.eq_1 blq.eq_1
def bvm:=bzb blp.eq_1 blo.eq_1 bln.eq_1 blm.eq_1 bll.eq_1 blk.eq_1 blj.eq_1 bli.eq_1
def bvn:=bzb blh.eq_1 blg.eq_1 blf.eq_1 ble.eq_1 bld.eq_1 blc.eq_1 aqk.eq_1 aqj.eq_1
def bvo:=bzb aqh.eq_1 aqg.eq_1 r_b5_0.eq_1 r_b5_1.eq_1 r_b5_2.eq_1 r_b5_3.eq_1 r_b5_4.eq_1 bkr.eq_1
def bvp:=bzb bkq.eq_1 bkp.eq_1 bko.eq_1 bkn.eq_1 ao9.eq_1 ao8.eq_1 ao7.eq_1 ao6.eq_1
def bvq:=bzb r_dk_0.eq_1 r_dk_1.eq_1 r_dk_2.eq_1 r_dk_4.eq_1 r_cm_0.eq_1 r_cm_1.eq_1 bie.eq_1 bid.eq_1
def bvr:=bzb bic.eq_1 bib.eq_1 r_bx_0.eq_1 r_bx_1.eq_1 r_bx_3.eq_1 r_eo_0.eq_1 r_eo_1.eq_1 r_eo_3.eq_1
def bvs:=bzb r_dw_0.eq_1 r_dw_1.eq_1 r_dw_2.eq_1 r_dw_4.eq_1 r_ab_0.eq_1 r_ab_1.eq_1 r_ab_3.eq_1 r_ab_4.eq_1
def bvt:=bzb r_ab_5.eq_1 r_ab_6.eq_1 r_ab_8.eq_1 r_ab_9.eq_1 bq4.eq_1 bq2.eq_1 asn.eq_1 asl.eq_1
def bvu:=bzb bqz.eq_1 bqy.eq_1 bqx.eq_1 ask.eq_1 asi.eq_1 ash.eq_1 bqw.eq_1 bqv.eq_1
def bvv:=bze bqs.eq_1
def bvw:=bze asf.eq_1
def bvx:=bze asd.eq_1
def bvy:=bze bqp.eq_1
attribute [go_sem] abi bt3 bt4 bt5 bt6 bt7 bt8 bt9 bua bub buc bud bue buf bug buh bui buj buk bul bum bun buo bup buq bur bus buu buv buw bux buy buz bu0 bu1 bu2 bu3 bu4 bu5 bu6 bu7 bu8 bu9 bva bvb bvc bvd bve bvf bvg bvh bvi bvj bvk bvl bvm bvn bvo bvp bvq bvr bvs bvt bvu bvv bvw bvx bvy
